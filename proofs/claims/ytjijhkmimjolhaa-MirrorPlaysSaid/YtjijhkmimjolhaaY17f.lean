/- Chapter 17: what stays; the examples. -/
import Derived.Test.YtjijhkmimjolhaaY17e
namespace Go.Proofs.Ytjijhkmimjolhaa.Ab
open Go
set_option linter.unusedVariables false
set_option linter.unusedSimpArgs false
variable {T : AT}
theorem good_sz {l : Lay} (h : l.good = true) : 1 ≤ l.ns.length ∧ l.ns.length ≤ 40 ∧ l.es.length ≤ 120 := by
  simp only [Lay.good, Bool.and_eq_true, decide_eq_true_eq] at h
  exact ⟨h.1.1.1.1, h.1.1.1.2, h.1.1.2⟩
theorem good_edges {l : Lay} (h : l.good = true) : ∀ e ∈ l.es, 0 ≤ e.a ∧ e.a < l.ns.length ∧ 0 ≤ e.b ∧ e.b < l.ns.length ∧ e.a ≠ e.b := by
  intro e he
  simp only [Lay.good, Bool.and_eq_true] at h
  obtain ⟨i, hi⟩ := List.mem_iff_getElem?.1 he
  have := okE_iff.1 (allOk_iff.1 h.2 i e hi)
  exact ⟨this.1.1, this.1.2, this.2.1.1, this.2.1.2, this.2.2.1⟩
theorem Mi.new_ok {l : Lay} (h : l.good = true) : (Mi.new l).Ok := by
  have hz := good_sz h
  refine ⟨by simp [Mi.new], by simp [Mi.new]; omega, by simp [Mi.new]; omega, by simp [Mi.new], fun e he => ?_, fun x hx => ?_, fun x hx => ?_⟩
  · have := good_edges h e he
    simpa [Mi.new] using this
  · simp only [Mi.new] at hx
    rw [(List.mem_replicate.1 (List.mem_of_getElem? hx)).2]
  · simp only [Mi.new] at hx
    rw [(List.mem_replicate.1 hx).2]; decide
/-- a mirror changed at a device, or in its totes -/
theorem Mi.Ok.of {m q : Mi} (h : m.Ok) (h1 : q.es = m.es) (h2 : q.ds.length = m.ds.length) (h3 : q.at_.length = m.at_.length) (h4 : q.w.length = m.w.length) (h5 : ∀ x, q.ds[0]? = some x → x.tote = 0) (h6 : ∀ x ∈ q.w, 0 ≤ x ∧ x ≤ 1000) : q.Ok :=
  ⟨by rw [h4]; exact h.wl, by rw [h3]; exact h.al, by rw [h1]; exact h.el, by rw [h2, h1]; exact h.dl, by rw [h1, h3]; exact h.ed, h5, h6⟩
theorem set0 {l : List Md} {d : Nat} (hd : 1 ≤ d) (y : Md) (h : ∀ x, l[0]? = some x → x.tote = 0) : ∀ x, (l.set d y)[0]? = some x → x.tote = 0 := fun x hx => by
  rw [List.getElem?_set_ne (by omega)] at hx; exact h x hx
theorem setw {l : List Int} {t : Nat} {v : Int} (hv : 0 ≤ v ∧ v ≤ 1000) (h : ∀ x ∈ l, 0 ≤ x ∧ x ≤ 1000) : ∀ x ∈ l.set t v, 0 ≤ x ∧ x ≤ 1000 := fun x hx => by
  rcases List.mem_or_eq_of_mem_set hx with hx | rfl
  · exact h x hx
  · exact hv
theorem Mi.put_cases (m : Mi) (t n : Int) : (m.put t n).2 ≠ 0 ∧ (m.put t n).1 = m ∨ noTote t = false ∧ m.noNode n = false ∧ ¬(m.w[t.toNat]?.getD 0 > 0) ∧ m.taken n = false ∧ m.put t n = (⟨m.es, m.w.set t.toNat (n + 1), m.at_.set n.toNat t, m.ds⟩, 0) := by
  unfold Mi.put
  split
  · exact .inl ⟨by simp, rfl⟩
  · rename_i h1
    split
    · exact .inl ⟨by simp, rfl⟩
    · rename_i h2
      split
      · exact .inl ⟨by simp, rfl⟩
      · rename_i h3
        simp only [not_or, Bool.not_eq_true] at h1 h3
        exact .inr ⟨h1.1, h1.2, h2, h3, rfl⟩
theorem Mi.send_cases (m : Mi) (d t s : Int) : (m.send d t s).2 ≠ 0 ∧ (m.send d t s).1 = m ∨ ∃ x e, noTote t = false ∧ m.noDev d = false ∧ 0 ≤ s ∧ s ≤ 65535 ∧ m.ds[d.toNat]? = some x ∧ m.es[(d - 1).toNat]? = some e ∧ x.down = false ∧ ¬x.tote > 0 ∧ m.loc t = e.a ∧ hasT m.ds t = false ∧ m.taken e.b = false ∧
    m.send d t s = (⟨m.es, m.w, m.at_, m.ds.set d.toNat ⟨t, s, true, x.down⟩⟩, 0) := by
  unfold Mi.send
  split
  · exact .inl ⟨by simp, rfl⟩
  · rename_i h1
    split
    · rename_i x e hx he
      split
      · exact .inl ⟨by simp, rfl⟩
      · rename_i h2
        split
        · exact .inl ⟨by simp, rfl⟩
        · rename_i h3
          split
          · exact .inl ⟨by simp, rfl⟩
          · rename_i h4
            simp only [not_or, Bool.not_eq_true, Decidable.not_not, ne_eq] at h1 h2 h3 h4
            exact .inr ⟨x, e, h1.1, h1.2.1, by omega, by omega, hx, he, h2.1, h2.2, h3.1, h3.2, h4, rfl⟩
    · exact .inl ⟨by simp, rfl⟩
theorem Mi.moved_cases (m : Mi) (d t : Int) : (m.moved d t).2 ≠ 0 ∧ (m.moved d t).1 = m ∨ ∃ x e, noTote t = false ∧ m.noDev d = false ∧ m.ds[d.toNat]? = some x ∧ m.es[(d - 1).toNat]? = some e ∧ x.tote = t ∧ t ≠ 0 ∧
    m.moved d t = (⟨m.es, m.w.set t.toNat (e.b + 1), (m.at_.set e.a.toNat 0).set e.b.toNat t, m.ds.set d.toNat ⟨0, x.seq, x.ever, x.down⟩⟩, 0) := by
  unfold Mi.moved
  split
  · exact .inl ⟨by simp, rfl⟩
  · rename_i h1
    split
    · rename_i x e hx he
      split
      · exact .inl ⟨by simp, rfl⟩
      · rename_i h2
        split
        · rename_i h3
          simp only [not_or, Bool.not_eq_true] at h1
          exact .inr ⟨x, e, h1.1, h1.2, hx, he, h3, by rw [← h3]; exact h2, rfl⟩
        · exact .inl ⟨by simp, rfl⟩
    · exact .inl ⟨by simp, rfl⟩
theorem Mi.drop_cases (m : Mi) (d : Int) : (m.drop d).2 ≠ 0 ∧ (m.drop d).1 = m ∨ ∃ x, m.noDev d = false ∧ m.ds[d.toNat]? = some x ∧ x.tote ≠ 0 ∧ m.drop d = (⟨m.es, m.w, m.at_, m.ds.set d.toNat ⟨0, x.seq, x.ever, x.down⟩⟩, 0) := by
  unfold Mi.drop
  split
  · exact .inl ⟨by simp, rfl⟩
  · rename_i h1
    split
    · rename_i x hx
      split
      · exact .inl ⟨by simp, rfl⟩
      · rename_i h2
        exact .inr ⟨x, by simpa using h1, hx, h2, rfl⟩
    · exact .inl ⟨by simp, rfl⟩
theorem Mi.mask_cases (m : Mi) (d : Int) (b : Bool) : (m.mask d b).2 ≠ 0 ∧ (m.mask d b).1 = m ∨ ∃ x, m.noDev d = false ∧ m.ds[d.toNat]? = some x ∧ m.mask d b = (⟨m.es, m.w, m.at_, m.ds.set d.toNat ⟨x.tote, x.seq, x.ever, b⟩⟩, 0) := by
  unfold Mi.mask
  split
  · exact .inl ⟨by simp, rfl⟩
  · rename_i h1
    split
    · rename_i x hx; exact .inr ⟨x, by simpa using h1, hx, rfl⟩
    · exact .inl ⟨by simp, rfl⟩
theorem noTote_in {t : Int} (h : noTote t = false) : 1 ≤ t ∧ t ≤ 30 := by
  have : ¬(t < 1 ∨ 30 < t) := by simpa [noTote] using h
  omega
theorem noNode_in {m : Mi} {n : Int} (h : m.noNode n = false) : 0 ≤ n ∧ n < m.at_.length := by
  have : ¬(n < 0 ∨ (m.at_.length : Int) ≤ n) := by simpa [Mi.noNode] using h
  omega
theorem Mi.put_ok {m : Mi} (h : m.Ok) (t n : Int) : (m.put t n).1.Ok := by
  rcases m.put_cases t n with k | ⟨h1, h2, _, _, k⟩
  · rw [k.2]; exact h
  · rw [k]
    have := noNode_in h2
    have := h.al
    exact h.of rfl rfl (by simp) (by simp) h.d0 (setw (by omega) h.wr)
theorem Mi.send_ok {m : Mi} (h : m.Ok) (d t s : Int) : (m.send d t s).1.Ok := by
  rcases m.send_cases d t s with k | ⟨x, e, _, h2, _, _, _, _, _, _, _, _, _, k⟩
  · rw [k.2]; exact h
  · rw [k]
    obtain ⟨_, d1, _⟩ := Mi.dev h2
    exact h.of rfl (by simp) rfl rfl (set0 (by omega) _ h.d0) h.wr
theorem Mi.moved_ok {m : Mi} (h : m.Ok) (d t : Int) : (m.moved d t).1.Ok := by
  rcases m.moved_cases d t with k | ⟨x, e, _, h2, _, he, _, _, k⟩
  · rw [k.2]; exact h
  · rw [k]
    obtain ⟨_, d1, _⟩ := Mi.dev h2
    have := h.ed e (List.mem_of_getElem? he)
    have := h.al
    exact h.of rfl (by simp) (by simp) (by simp) (set0 (by omega) _ h.d0) (setw (by omega) h.wr)
theorem Mi.drop_ok {m : Mi} (h : m.Ok) (d : Int) : (m.drop d).1.Ok := by
  rcases m.drop_cases d with k | ⟨x, h2, _, _, k⟩
  · rw [k.2]; exact h
  · rw [k]
    obtain ⟨_, d1, _⟩ := Mi.dev h2
    exact h.of rfl (by simp) rfl rfl (set0 (by omega) _ h.d0) h.wr
theorem Mi.mask_ok {m : Mi} (h : m.Ok) (d : Int) (b : Bool) : (m.mask d b).1.Ok := by
  rcases m.mask_cases d b with k | ⟨x, h2, _, k⟩
  · rw [k.2]; exact h
  · rw [k]
    obtain ⟨_, d1, _⟩ := Mi.dev h2
    exact h.of rfl (by simp) rfl rfl (set0 (by omega) _ h.d0) h.wr
theorem Mi.apply_ok {m : Mi} (h : m.Ok) (n : Nt) : (m.apply n).1.Ok := by
  unfold Mi.apply
  repeat' split
  · exact Mi.put_ok h ..
  · exact Mi.send_ok h ..
  · exact Mi.moved_ok h ..
  · exact Mi.drop_ok h ..
  · exact Mi.mask_ok h ..
  · exact h
structure TabW (T : AT) : Prop extends TabM T where
  awake : T i_stillagelaw17_awake = some (.fn c_stillagelaw17_awake)
  few : T i_stillagelaw17_few = some (.fn c_stillagelaw17_few)
def lay0 : Lay := ⟨[⟨[97], 1, 0⟩, ⟨[98], 1, 0⟩, ⟨[99], 1, 0⟩], [⟨0, 1⟩, ⟨1, 2⟩, ⟨2, 0⟩]⟩
theorem few_spec (c : TabW T) (l : Lay) : Ret2 T 0 i_stillagelaw17_few [l.v] [] (fun v h' => v = .b (decide (l.ns.length ≤ 60 ∧ l.es.length ≤ 200)) ∧ h' = []) := by
  refine Ret2_fnv c.few rfl rfl ?_
  unfold Lay.v
  (repeat' with_reducible first |apply qA|apply qB|apply qC|apply qD|apply qE|apply qF|(apply qG;decide)|apply qH|apply qI|apply qJ|apply qK|((first|apply qL|apply qM|apply qN|apply qO|((first|apply qP|apply qQ);decide +kernel));(conv=>lhs;simp only[go_sem, ibin, ishift])<;>rfl)|((first|apply qR|apply qS);(conv=>lhs;simp only[go_sem])<;>rfl;rfl)|((first|apply qT|apply qU);(conv=>lhs;simp only[go_sem])<;>rfl;rfl)|apply qV|apply qW|apply qX|apply qY|apply qZ)
  refine ⟨by first | exact .inr rfl | exact .inl rfl, _, _, (by (conv => lhs; simp only [go_sem, ibin, ishift]) <;> with_reducible rfl), (by (conv => lhs; simp only [go_sem, ibin, ishift]) <;> with_reducible rfl), ?_⟩
  refine ⟨[], by decide, rfl, ?_⟩
  refine ⟨?_, rfl⟩
  simp only [SV.cv]
  congr 2
  rw [Bool.eq_iff_iff]; simp only [Bool.and_eq_true, decide_eq_true_eq]; omega
theorem awake_spec (c : TabW T) : Ret2 T 0 i_stillagelaw17_awake [] [] (fun v h' => v = .b true ∧ h' = []) := by
  refine Ret2_fnv c.awake rfl rfl ?_
  have hg : lay0.good = true := by rfl
  have k0 := Mi.new_ok hg
  have p1 : (Mi.new lay0).put 5 0 = (((Mi.new lay0).put 5 0).1, 0) := rfl
  have k1 := Mi.put_ok k0 5 0
  have p2 : ((Mi.new lay0).put 5 0).1.send 1 5 9 = ((((Mi.new lay0).put 5 0).1.send 1 5 9).1, 0) := rfl
  have k2 := Mi.send_ok k1 1 5 9
  have p3 : (((Mi.new lay0).put 5 0).1.send 1 5 9).1.taken 1 = true := rfl
  have p4 : (((Mi.new lay0).put 5 0).1.send 1 5 9).1.loc 5 = 0 := rfl
  have p5 : (((Mi.new lay0).put 5 0).1.send 1 5 9).1.moved 1 5 = (((((Mi.new lay0).put 5 0).1.send 1 5 9).1.moved 1 5).1, 0) := rfl
  have k3 := Mi.moved_ok k2 1 5
  have p6 : ((((Mi.new lay0).put 5 0).1.send 1 5 9).1.moved 1 5).1.loc 5 = 1 := rfl
  have p7 : (((((Mi.new lay0).put 5 0).1.send 1 5 9).1.moved 1 5).1.send 1 5 10).2 = 160 := rfl
  generalize ((((Mi.new lay0).put 5 0).1.send 1 5 9).1.moved 1 5).1 = m3 at p5 p6 p7 k3
  generalize (((Mi.new lay0).put 5 0).1.send 1 5 9).1 = m2 at p2 p3 p4 p5 k2
  generalize ((Mi.new lay0).put 5 0).1 = m1 at p1 p2 k1
  (repeat' with_reducible first |apply qA|apply qB|apply qC|apply qD|apply qE|apply qF|(apply qG;decide)|apply qH|apply qI|apply qJ|apply qK|((first|apply qL|apply qM|apply qN|apply qO|((first|apply qP|apply qQ);decide +kernel));(conv=>lhs;simp only[go_sem, ibin, ishift])<;>rfl)|((first|apply qR|apply qS);(conv=>lhs;simp only[go_sem])<;>rfl;rfl)|((first|apply qT|apply qU);(conv=>lhs;simp only[go_sem])<;>rfl;rfl)|apply qV|apply qW|apply qX|apply qY|apply qZ)
  (with_reducible((first|apply pA|apply pB|apply pC|apply pD|apply pE|((first|apply pF|apply pG);decide +kernel));(conv=>lhs;simp only[go_sem, ibin, ishift])<;>rfl))
  refine CK_frz 0 rfl (by (conv => lhs; simp only [go_sem, ibin, ishift]) <;> with_reducible rfl) (by (conv => lhs; simp only [go_sem, ibin, ishift]) <;> with_reducible rfl) (by (conv => lhs; simp only [go_sem, ibin, ishift]) <;> with_reducible rfl) ?_
  refine CK_frz 1 rfl (by (conv => lhs; simp only [go_sem, ibin, ishift]) <;> with_reducible rfl) (by (conv => lhs; simp only [go_sem, ibin, ishift]) <;> with_reducible rfl) (by (conv => lhs; simp only [go_sem, ibin, ishift]) <;> with_reducible rfl) ?_
  refine CK_pure (new_spec c.toTabM lay0 ⟨by decide, by decide⟩ (by decide)) rfl ?_
  rintro v h' ⟨_, hh⟩
  obtain ⟨rfl, rfl⟩ := hh hg
  generalize Mi.new lay0 = m0 at p1 k0
  unfold Mi.h
  (with_reducible((first|apply WO2_finw|apply WO2_fina);(conv=>lhs;simp only[go_sem, ibin, ishift])<;>rfl))
  (repeat' with_reducible first |apply qA|apply qB|apply qC|apply qD|apply qE|apply qF|(apply qG;decide)|apply qH|apply qI|apply qJ|apply qK|((first|apply qL|apply qM|apply qN|apply qO|((first|apply qP|apply qQ);decide +kernel));(conv=>lhs;simp only[go_sem, ibin, ishift])<;>rfl)|((first|apply qR|apply qS);(conv=>lhs;simp only[go_sem])<;>rfl;rfl)|((first|apply qT|apply qU);(conv=>lhs;simp only[go_sem])<;>rfl;rfl)|apply qV|apply qW|apply qX|apply qY|apply qZ)
  (with_reducible((first|apply pA|apply pB|apply pC|apply pD|apply pE|((first|apply pF|apply pG);decide +kernel));(conv=>lhs;simp only[go_sem, ibin, ishift])<;>rfl))
  refine CK_call [2, 3, 4] (put_spec c.toTabM m0 k0 5 0) (by decide) (by simp) rfl rfl (by first | rfl | (simp only [go_sem, Mi.h]; done) | (simp only [go_sem, Mi.h] <;> rfl)) ?_
  rintro v h' ⟨rfl, rfl⟩
  rw [p1]
  unfold Mi.h
  (with_reducible((first|apply pA|apply pB|apply pC|apply pD|apply pE|((first|apply pF|apply pG);decide +kernel));(conv=>lhs;simp only[go_sem, ibin, ishift])<;>rfl))
  refine CK_call [2, 3, 4] (send_spec c.toTabM m1 k1 1 5 9) (by decide) (by simp) rfl rfl (by first | rfl | (simp only [go_sem, Mi.h]; done) | (simp only [go_sem, Mi.h] <;> rfl)) ?_
  rintro v h' ⟨rfl, rfl⟩
  rw [p2]
  unfold Mi.h
  (with_reducible((first|apply pA|apply pB|apply pC|apply pD|apply pE|((first|apply pF|apply pG);decide +kernel));(conv=>lhs;simp only[go_sem, ibin, ishift])<;>rfl))
  refine CK_call [2, 3, 4] (taken_spec c.toTabM m2 k2 1) (by decide) (by simp) rfl rfl (by first | rfl | (simp only [go_sem, Mi.h]; done) | (simp only [go_sem, Mi.h] <;> rfl)) ?_
  rintro v h' ⟨rfl, rfl⟩
  rw [p3]
  unfold Mi.h
  (with_reducible((first|apply pA|apply pB|apply pC|apply pD|apply pE|((first|apply pF|apply pG);decide +kernel));(conv=>lhs;simp only[go_sem, ibin, ishift])<;>rfl))
  refine CK_call [2, 3, 4] (where_spec c.toTabM m2 k2 5) (by decide) (by simp) rfl rfl (by first | rfl | (simp only [go_sem, Mi.h]; done) | (simp only [go_sem, Mi.h] <;> rfl)) ?_
  rintro v h' ⟨rfl, rfl⟩
  rw [p4]
  unfold Mi.h
  (with_reducible((first|apply pA|apply pB|apply pC|apply pD|apply pE|((first|apply pF|apply pG);decide +kernel));(conv=>lhs;simp only[go_sem, ibin, ishift])<;>rfl))
  refine CK_call [2, 3, 4] (moved_spec c.toTabM m2 k2 1 5) (by decide) (by simp) rfl rfl (by first | rfl | (simp only [go_sem, Mi.h]; done) | (simp only [go_sem, Mi.h] <;> rfl)) ?_
  rintro v h' ⟨rfl, rfl⟩
  rw [p5]
  unfold Mi.h
  (with_reducible((first|apply pA|apply pB|apply pC|apply pD|apply pE|((first|apply pF|apply pG);decide +kernel));(conv=>lhs;simp only[go_sem, ibin, ishift])<;>rfl))
  refine CK_call [2, 3, 4] (where_spec c.toTabM m3 k3 5) (by decide) (by simp) rfl rfl (by first | rfl | (simp only [go_sem, Mi.h]; done) | (simp only [go_sem, Mi.h] <;> rfl)) ?_
  rintro v h' ⟨rfl, rfl⟩
  rw [p6]
  unfold Mi.h
  (with_reducible((first|apply pA|apply pB|apply pC|apply pD|apply pE|((first|apply pF|apply pG);decide +kernel));(conv=>lhs;simp only[go_sem, ibin, ishift])<;>rfl))
  refine CK_call [2, 3, 4] (send_spec c.toTabM m3 k3 1 5 10) (by decide) (by simp) rfl rfl (by first | rfl | (simp only [go_sem, Mi.h]; done) | (simp only [go_sem, Mi.h] <;> rfl)) ?_
  rintro v h' ⟨rfl, rfl⟩
  rw [p7]
  unfold Mi.h
  (with_reducible((first|apply WO2_finw|apply WO2_fina);(conv=>lhs;simp only[go_sem, ibin, ishift])<;>rfl))
  (repeat' with_reducible first |apply qA|apply qB|apply qC|apply qD|apply qE|apply qF|(apply qG;decide)|apply qH|apply qI|apply qJ|apply qK|((first|apply qL|apply qM|apply qN|apply qO|((first|apply qP|apply qQ);decide +kernel));(conv=>lhs;simp only[go_sem, ibin, ishift])<;>rfl)|((first|apply qR|apply qS);(conv=>lhs;simp only[go_sem])<;>rfl;rfl)|((first|apply qT|apply qU);(conv=>lhs;simp only[go_sem])<;>rfl;rfl)|apply qV|apply qW|apply qX|apply qY|apply qZ)
  refine ⟨by first | exact .inr rfl | exact .inl rfl, _, _, (by (conv => lhs; simp only [go_sem, ibin, ishift]) <;> with_reducible rfl), (by (conv => lhs; simp only [go_sem, ibin, ishift]) <;> with_reducible rfl), ?_⟩
  refine ⟨[], by decide, rfl, ?_⟩
  exact ⟨rfl, rfl⟩
end Go.Proofs.Ytjijhkmimjolhaa.Ab
