/- Chapter 17: MirrorWalks. -/
import Derived.Test.YtjijhkmimjolhaaY17f
namespace Go.Proofs.Ytjijhkmimjolhaa.Ab
open Go
set_option linter.unusedVariables false
set_option linter.unusedSimpArgs false
variable {T : AT}
/-- one tote alone, nothing told -/
structure Lone (l : Lay) (t at_ : Int) (m : Mi) : Prop where
  ok : m.Ok
  es : m.es = l.es
  al : m.at_.length = l.ns.length
  tr : 1 ≤ t ∧ t ≤ 30
  ar : 0 ≤ at_ ∧ at_ < m.at_.length
  w : m.w[t.toNat]? = some (at_ + 1)
  nd : ∀ (j : Nat) (y : Int), m.at_[j]? = some y → y = if j = at_.toNat then t else 0
  dv : ∀ (j : Nat) (d : Md), m.ds[j]? = some d → d.tote = 0 ∧ d.down = false
theorem noTote_out {t : Int} (h : 1 ≤ t ∧ t ≤ 30) : noTote t = false := by simp [noTote]; omega
theorem noDev_out {m : Mi} {d : Int} (h : 1 ≤ d ∧ d < m.ds.length) : m.noDev d = false := by simp [Mi.noDev]; omega
theorem noNode_out {m : Mi} {n : Int} (h : 0 ≤ n ∧ n < m.at_.length) : m.noNode n = false := by simp [Mi.noNode]; omega
theorem Lone.loc {l : Lay} {t at_ : Int} {m : Mi} (h : Lone l t at_ m) : m.loc t = at_ := by
  rw [Mi.loc, if_neg (by rw [noTote_out h.tr]; decide), h.w]; simp only [Option.getD_some]; omega
theorem Lone.busy {l : Lay} {t at_ : Int} {m : Mi} (h : Lone l t at_ m) (n : Int) : m.busy n = false :=
  busy_false fun j x hx => by simp [busyAt, (h.dv j x hx).1]
theorem Lone.get {l : Lay} {t at_ : Int} {m : Mi} (h : Lone l t at_ m) {n : Int} (hn : 0 ≤ n ∧ n < m.at_.length) : m.at_[n.toNat]? = some (if n = at_ then t else 0) := by
  have hl : n.toNat < m.at_.length := by omega
  have := h.nd n.toNat _ (List.getElem?_eq_getElem hl)
  rw [List.getElem?_eq_getElem hl, this]
  have ha := h.ar
  by_cases e : n = at_
  · subst e; simp
  · rw [if_neg (by omega), if_neg e]
theorem Lone.taken {l : Lay} {t at_ : Int} {m : Mi} (h : Lone l t at_ m) {n : Int} (hn : 0 ≤ n ∧ n < m.at_.length) (hne : n ≠ at_) : m.taken n = false := by
  rw [Mi.taken, h.busy, h.get hn, if_neg hne]; simp
theorem Lone.tote {l : Lay} {t at_ : Int} {m : Mi} (h : Lone l t at_ m) {n : Int} (hn : 0 ≤ n ∧ n < m.at_.length) : m.tote n = if n = at_ then t else 0 := by
  rw [Mi.tote, if_neg (by rw [noNode_out hn]; decide), h.get hn]; rfl
theorem Lone.refuse {l : Lay} {t at_ : Int} {m : Mi} (h : Lone l t at_ m) {d s : Int} (hb : ∀ e, 1 ≤ d → d ≤ l.es.length → l.es[(d - 1).toNat]? = some e → e.a ≠ at_) : (m.send d t s).2 ≠ 0 ∧ (m.send d t s).1 = m := by
  rcases m.send_cases d t s with k | ⟨x, e, _, h2, _, _, hx, he, _, _, hl, _⟩
  · exact k
  · obtain ⟨_, d1, d2, _⟩ := Mi.dev h2
    rw [h.loc] at hl
    rw [h.ok.dl, h.es] at d2
    rw [h.es] at he
    exact (hb e d1 (by omega) he hl.symm).elim
/-- told and moved -/
theorem Lone.step {l : Lay} {t at_ : Int} {m : Mi} (h : Lone l t at_ m) {d s : Int} {e : Ed} (hd : 1 ≤ d ∧ d ≤ l.es.length) (he : l.es[(d - 1).toNat]? = some e) (ha : e.a = at_) (hs : 0 ≤ s ∧ s ≤ 65535) :
    ∃ m1 m2, m.send d t s = (m1, 0) ∧ m1.Ok ∧ m1.moved d t = (m2, 0) ∧ Lone l t e.b m2 ∧ 0 ≤ e.b ∧ e.b < m2.at_.length ∧ m2.taken at_ = false ∧ m2.tote at_ = 0 := by
  have hdl := h.ok.dl
  rw [h.es] at hdl
  have hn := noDev_out (m := m) (d := d) (by omega)
  obtain ⟨_, _, _, d3, x, hx⟩ := Mi.dev hn
  have hxd := h.dv _ _ hx
  have hem : e ∈ m.es := by rw [h.es]; exact List.mem_of_getElem? he
  have hed := h.ok.ed e hem
  have har := h.ar
  have hal := h.ok.al
  have hh : hasT m.ds t = false := List.any_eq_false.2 fun y hy => by
    obtain ⟨j, hj⟩ := List.mem_iff_getElem?.1 hy
    have h1 := h.dv j y hj
    have h2 := h.tr
    simp only [decide_eq_true_eq]; omega
  have hsend : m.send d t s = (⟨m.es, m.w, m.at_, m.ds.set d.toNat ⟨t, s, true, x.down⟩⟩, 0) := by
    rw [Mi.send, if_neg (by rw [noTote_out h.tr, hn]; simp; omega)]
    simp only [hx, h.es, he]
    rw [if_neg (by rw [hxd.1, hxd.2]; decide), if_neg (by rw [h.loc, hh]; simp [ha]), if_neg (by rw [h.taken ⟨hed.2.2.1, hed.2.2.2.1⟩ (by omega)]; decide)]
  have ok1 := Mi.send_ok h.ok d t s
  rw [hsend] at ok1
  simp only at ok1
  have hn1 : (Mi.mk m.es m.w m.at_ (m.ds.set d.toNat ⟨t, s, true, x.down⟩)).noDev d = false := noDev_out (by simp only [List.length_set]; omega)
  have hmov : (Mi.mk m.es m.w m.at_ (m.ds.set d.toNat ⟨t, s, true, x.down⟩)).moved d t = (⟨m.es, m.w.set t.toNat (e.b + 1), (m.at_.set e.a.toNat 0).set e.b.toNat t, (m.ds.set d.toNat ⟨t, s, true, x.down⟩).set d.toNat ⟨0, s, true, x.down⟩⟩, 0) := by
    rw [Mi.moved, if_neg (by rw [noTote_out h.tr, hn1]; decide)]
    simp only [List.getElem?_set_self d3, h.es, he]
    rw [if_neg (by have := h.tr; omega), if_pos trivial]
  have ok2 := Mi.moved_ok ok1 d t
  rw [hmov] at ok2
  simp only at ok2
  have hL : Lone l t e.b ⟨m.es, m.w.set t.toNat (e.b + 1), (m.at_.set e.a.toNat 0).set e.b.toNat t, (m.ds.set d.toNat ⟨t, s, true, x.down⟩).set d.toNat ⟨0, s, true, x.down⟩⟩ := by
    refine ⟨ok2, h.es, by simp only [List.length_set]; exact h.al, h.tr, by simp only [List.length_set]; omega, ?_, fun j y hy => ?_, fun j y hy => ?_⟩
    · exact List.getElem?_set_self (by have := h.ok.wl; have := h.tr; omega)
    · simp only at hy
      by_cases ej : j = e.b.toNat
      · subst ej
        rw [List.getElem?_set_self (by rw [List.length_set]; omega)] at hy
        cases hy; rw [if_pos rfl]
      · rw [List.getElem?_set_ne (Ne.symm ej)] at hy
        rw [if_neg ej]
        by_cases ej2 : j = e.a.toNat
        · subst ej2
          rw [List.getElem?_set_self (by omega)] at hy
          cases hy; rfl
        · rw [List.getElem?_set_ne (Ne.symm ej2)] at hy
          have := h.nd j y hy
          rw [if_neg (by rw [← ha]; exact ej2)] at this
          exact this
    · simp only [List.set_set] at hy
      by_cases ej : d.toNat = j
      · subst ej
        rw [List.getElem?_set_self d3] at hy
        cases hy; exact ⟨rfl, hxd.2⟩
      · rw [List.getElem?_set_ne ej] at hy
        exact h.dv j y hy
  refine ⟨_, _, hsend, ok1, hmov, hL, hed.2.2.1, by simp only [List.length_set]; exact hed.2.2.2.1, hL.taken (by simp only [List.length_set]; exact har) (by omega), ?_⟩
  rw [hL.tote (by simp only [List.length_set]; exact har), if_neg (by omega)]
theorem lone_put {l : Lay} {m : Mi} (hk : m.Ok) (he : m.es = l.es) (hl : m.at_.length = l.ns.length) (hd : ∀ (j : Nat) (d : Md), m.ds[j]? = some d → d = ⟨0, 0, false, false⟩) (hz : ∀ x ∈ m.at_, x = 0) {t n : Int} (h : (m.put t n).2 = 0) : Lone l t n (m.put t n).1 := by
  have ok := Mi.put_ok hk t n
  rcases m.put_cases t n with k | ⟨h1, h2, _, _, k⟩
  · exact (k.1 h).elim
  · rw [k] at ok ⊢
    have ht := noTote_in h1
    have hn := noNode_in h2
    refine ⟨ok, he, by simp only [List.length_set]; exact hl, ht, by simp only [List.length_set]; exact hn, List.getElem?_set_self (by have := hk.wl; omega), fun j y hy => ?_, fun j y hy => ?_⟩
    · simp only at hy
      by_cases ej : j = n.toNat
      · subst ej
        rw [List.getElem?_set_self (by omega)] at hy
        cases hy; rw [if_pos rfl]
      · rw [List.getElem?_set_ne (Ne.symm ej)] at hy
        rw [if_neg ej]; exact hz y (List.mem_of_getElem? hy)
    · rw [hd j y hy]; exact ⟨rfl, rfl⟩
set_option maxHeartbeats 2000000 in
theorem mirrorWalks_law (c : TabW T) (hT : T i_stillagelaw17_MirrorWalks = some (.fn c_stillagelaw17_MirrorWalks)) (l : Lay) (hs : ∀ x ∈ l.ns, x.name.length ≤ 9223372036854775807) (t n : Int) (s : List Int) :
    Ret2 T 0 i_stillagelaw17_MirrorWalks [l.v, .agg [.i .i64 t, .i .i64 n], .fz 1 (s.map cI)] [] (fun v h' => v = .b true) := by
  refine Ret2_fnv hT rfl rfl ?_
  have hv : l.v = .agg [.fz 3 (l.ns.map cN), .fz 2 (l.es.map cD)] := rfl
  rw [hv]
  (repeat' with_reducible first | refine thn2_nrm ?_ | refine thn2_ret ?_ | refine thn2_ex ?_ | refine blk2_nrm ?_ | refine blk2_ret ?_ | refine blk2_at ?_ | (refine blk2_ex ?_ ?_; decide) | refine W2_sas ?_ | refine W2_ss ?_ | refine W2_sret ?_ | refine W2_sexit ?_ | ((first | apply W2_sra | apply W2_srda | apply W2_runa | apply W2_runda); (conv => lhs; simp only [go_sem, ibin, ishift]) <;> rfl) | ((first | apply W2_srS | apply W2_runS); decide +kernel; (conv => lhs; simp only [go_sem, ibin, ishift]) <;> rfl) | ((first | apply W2_sct | apply W2_t2); (conv => lhs; simp only [go_sem]) <;> rfl; rfl) | ((first | apply W2_scf | apply W2_f2); (conv => lhs; simp only [go_sem]) <;> rfl; rfl) | refine W2_ret ?_ | refine W2_exit ?_ | refine W2_skip ?_ | refine W2_seq ?_ | refine W2_block ?_)
  (first | (((with_reducible first | apply W2_scall | apply W2_scalld | apply W2_calla | apply W2_callda | apply run2a_sound); ((conv => lhs; simp only [go_sem, ibin, ishift]) <;> with_reducible rfl))) | ((with_reducible first | apply W2_scallS | apply W2_callS); decide +kernel; ((conv => lhs; simp only [go_sem, ibin, ishift]) <;> with_reducible rfl)))
  refine CK_pure (awake_spec c) rfl ?_
  rintro v h' ⟨rfl, rfl⟩
  (first | (((with_reducible first | apply W2_scall | apply W2_scalld | apply W2_calla | apply W2_callda | apply run2a_sound); ((conv => lhs; simp only [go_sem, ibin, ishift]) <;> with_reducible rfl))) | ((with_reducible first | apply W2_scallS | apply W2_callS); decide +kernel; ((conv => lhs; simp only [go_sem, ibin, ishift]) <;> with_reducible rfl)))
  refine CK_pure (few_spec c l) (by first | rfl | (simp only [go_sem, Lay.v]; done) | (simp only [go_sem, Lay.v] <;> rfl)) ?_
  rintro v h' ⟨rfl, rfl⟩
  by_cases hf : l.ns.length ≤ 60 ∧ l.es.length ≤ 200
  rotate_left
  · rw [decide_eq_false hf]
    ((with_reducible first | apply WO2_finw | apply WO2_fina); ((conv => lhs; simp only [go_sem, ibin, ishift]) <;> with_reducible rfl))
    (repeat' with_reducible first | refine thn2_nrm ?_ | refine thn2_ret ?_ | refine thn2_ex ?_ | refine blk2_nrm ?_ | refine blk2_ret ?_ | refine blk2_at ?_ | (refine blk2_ex ?_ ?_; decide) | refine W2_sas ?_ | refine W2_ss ?_ | refine W2_sret ?_ | refine W2_sexit ?_ | ((first | apply W2_sra | apply W2_srda | apply W2_runa | apply W2_runda); (conv => lhs; simp only [go_sem, ibin, ishift]) <;> rfl) | ((first | apply W2_srS | apply W2_runS); decide +kernel; (conv => lhs; simp only [go_sem, ibin, ishift]) <;> rfl) | ((first | apply W2_sct | apply W2_t2); (conv => lhs; simp only [go_sem]) <;> rfl; rfl) | ((first | apply W2_scf | apply W2_f2); (conv => lhs; simp only [go_sem]) <;> rfl; rfl) | refine W2_ret ?_ | refine W2_exit ?_ | refine W2_skip ?_ | refine W2_seq ?_ | refine W2_block ?_)
    (first | (((with_reducible first | apply W2_scall | apply W2_scalld | apply W2_calla | apply W2_callda | apply run2a_sound); ((conv => lhs; simp only [go_sem, ibin, ishift]) <;> with_reducible rfl))) | ((with_reducible first | apply W2_scallS | apply W2_callS); decide +kernel; ((conv => lhs; simp only [go_sem, ibin, ishift]) <;> with_reducible rfl)))
    refine CK_pure (awake_spec c) rfl ?_
    rintro v h' ⟨rfl, rfl⟩
    ((with_reducible first | apply WO2_finw | apply WO2_fina); ((conv => lhs; simp only [go_sem, ibin, ishift]) <;> with_reducible rfl))
    (repeat' with_reducible first | refine thn2_nrm ?_ | refine thn2_ret ?_ | refine thn2_ex ?_ | refine blk2_nrm ?_ | refine blk2_ret ?_ | refine blk2_at ?_ | (refine blk2_ex ?_ ?_; decide) | refine W2_sas ?_ | refine W2_ss ?_ | refine W2_sret ?_ | refine W2_sexit ?_ | ((first | apply W2_sra | apply W2_srda | apply W2_runa | apply W2_runda); (conv => lhs; simp only [go_sem, ibin, ishift]) <;> rfl) | ((first | apply W2_srS | apply W2_runS); decide +kernel; (conv => lhs; simp only [go_sem, ibin, ishift]) <;> rfl) | ((first | apply W2_sct | apply W2_t2); (conv => lhs; simp only [go_sem]) <;> rfl; rfl) | ((first | apply W2_scf | apply W2_f2); (conv => lhs; simp only [go_sem]) <;> rfl; rfl) | refine W2_ret ?_ | refine W2_exit ?_ | refine W2_skip ?_ | refine W2_seq ?_ | refine W2_block ?_)
    refine ⟨by first | exact .inr rfl | exact .inl rfl, _, _, (by (conv => lhs; simp only [go_sem, ibin, ishift]) <;> with_reducible rfl), (by (conv => lhs; simp only [go_sem, ibin, ishift]) <;> with_reducible rfl), ?_⟩
    refine ⟨[], by decide, rfl, ?_⟩
    rfl
  rw [decide_eq_true hf]
  ((with_reducible first | apply WO2_finw | apply WO2_fina); ((conv => lhs; simp only [go_sem, ibin, ishift]) <;> with_reducible rfl))
  (repeat' with_reducible first | refine thn2_nrm ?_ | refine thn2_ret ?_ | refine thn2_ex ?_ | refine blk2_nrm ?_ | refine blk2_ret ?_ | refine blk2_at ?_ | (refine blk2_ex ?_ ?_; decide) | refine W2_sas ?_ | refine W2_ss ?_ | refine W2_sret ?_ | refine W2_sexit ?_ | ((first | apply W2_sra | apply W2_srda | apply W2_runa | apply W2_runda); (conv => lhs; simp only [go_sem, ibin, ishift]) <;> rfl) | ((first | apply W2_srS | apply W2_runS); decide +kernel; (conv => lhs; simp only [go_sem, ibin, ishift]) <;> rfl) | ((first | apply W2_sct | apply W2_t2); (conv => lhs; simp only [go_sem]) <;> rfl; rfl) | ((first | apply W2_scf | apply W2_f2); (conv => lhs; simp only [go_sem]) <;> rfl; rfl) | refine W2_ret ?_ | refine W2_exit ?_ | refine W2_skip ?_ | refine W2_seq ?_ | refine W2_block ?_)
  (first | (((with_reducible first | apply W2_scall | apply W2_scalld | apply W2_calla | apply W2_callda | apply run2a_sound); ((conv => lhs; simp only [go_sem, ibin, ishift]) <;> with_reducible rfl))) | ((with_reducible first | apply W2_scallS | apply W2_callS); decide +kernel; ((conv => lhs; simp only [go_sem, ibin, ishift]) <;> with_reducible rfl)))
  refine CK_pure (new_spec c.toTabM l ⟨by omega, by omega⟩ hs) (by first | rfl | (simp only [go_sem, Lay.v]; done) | (simp only [go_sem, Lay.v] <;> rfl)) ?_
  rintro v h' ⟨hh0, hh1⟩
  cases hg : l.good with
  | false =>
    obtain ⟨rfl, rfl⟩ := hh0 hg
    ((with_reducible first | apply WO2_finw | apply WO2_fina); ((conv => lhs; simp only [go_sem, ibin, ishift]) <;> with_reducible rfl))
    (repeat' with_reducible first | refine thn2_nrm ?_ | refine thn2_ret ?_ | refine thn2_ex ?_ | refine blk2_nrm ?_ | refine blk2_ret ?_ | refine blk2_at ?_ | (refine blk2_ex ?_ ?_; decide) | refine W2_sas ?_ | refine W2_ss ?_ | refine W2_sret ?_ | refine W2_sexit ?_ | ((first | apply W2_sra | apply W2_srda | apply W2_runa | apply W2_runda); (conv => lhs; simp only [go_sem, ibin, ishift]) <;> rfl) | ((first | apply W2_srS | apply W2_runS); decide +kernel; (conv => lhs; simp only [go_sem, ibin, ishift]) <;> rfl) | ((first | apply W2_sct | apply W2_t2); (conv => lhs; simp only [go_sem]) <;> rfl; rfl) | ((first | apply W2_scf | apply W2_f2); (conv => lhs; simp only [go_sem]) <;> rfl; rfl) | refine W2_ret ?_ | refine W2_exit ?_ | refine W2_skip ?_ | refine W2_seq ?_ | refine W2_block ?_)
    refine ⟨by first | exact .inr rfl | exact .inl rfl, _, _, (by (conv => lhs; simp only [go_sem, ibin, ishift]) <;> with_reducible rfl), (by (conv => lhs; simp only [go_sem, ibin, ishift]) <;> with_reducible rfl), ?_⟩
    refine ⟨[], by decide, rfl, ?_⟩
    rfl
  | true =>
    obtain ⟨rfl, rfl⟩ := hh1 hg
    have hk0 := Mi.new_ok hg
    have he0 : (Mi.new l).es = l.es := rfl
    have hl0 : (Mi.new l).at_.length = l.ns.length := by simp [Mi.new]
    have hd0 : ∀ (j : Nat) (d : Md), (Mi.new l).ds[j]? = some d → d = ⟨0, 0, false, false⟩ := fun j d h => (by
      have := List.mem_of_getElem? h
      simp only [Mi.new] at this
      exact (List.mem_replicate.1 this).2)
    have hw0 : ∀ (j : Nat) (v : Int), (Mi.new l).w[j]? = some v → v = 0 := fun j d h => (by
      have := List.mem_of_getElem? h
      simp only [Mi.new] at this
      exact (List.mem_replicate.1 this).2)
    have hz0 : ∀ x ∈ (Mi.new l).at_, x = 0 := fun x hx => (by
      simp only [Mi.new] at hx
      exact (List.mem_replicate.1 hx).2)
    generalize Mi.new l = p0 at hk0 he0 hl0 hd0 hw0 hz0
    unfold Mi.h
    ((with_reducible first | apply WO2_finw | apply WO2_fina); ((conv => lhs; simp only [go_sem, ibin, ishift]) <;> with_reducible rfl))
    (repeat' with_reducible first | refine thn2_nrm ?_ | refine thn2_ret ?_ | refine thn2_ex ?_ | refine blk2_nrm ?_ | refine blk2_ret ?_ | refine blk2_at ?_ | (refine blk2_ex ?_ ?_; decide) | refine W2_sas ?_ | refine W2_ss ?_ | refine W2_sret ?_ | refine W2_sexit ?_ | ((first | apply W2_sra | apply W2_srda | apply W2_runa | apply W2_runda); (conv => lhs; simp only [go_sem, ibin, ishift]) <;> rfl) | ((first | apply W2_srS | apply W2_runS); decide +kernel; (conv => lhs; simp only [go_sem, ibin, ishift]) <;> rfl) | ((first | apply W2_sct | apply W2_t2); (conv => lhs; simp only [go_sem]) <;> rfl; rfl) | ((first | apply W2_scf | apply W2_f2); (conv => lhs; simp only [go_sem]) <;> rfl; rfl) | refine W2_ret ?_ | refine W2_exit ?_ | refine W2_skip ?_ | refine W2_seq ?_ | refine W2_block ?_)
    (first | (((with_reducible first | apply W2_scall | apply W2_scalld | apply W2_calla | apply W2_callda | apply run2a_sound); ((conv => lhs; simp only [go_sem, ibin, ishift]) <;> with_reducible rfl))) | ((with_reducible first | apply W2_scallS | apply W2_callS); decide +kernel; ((conv => lhs; simp only [go_sem, ibin, ishift]) <;> with_reducible rfl)))
    refine CK_call [2, 3, 4] (put_spec c.toTabM p0 hk0 t n) (by decide) (by simp) rfl rfl (by first | rfl | (simp only [go_sem, Mi.h]; done) | (simp only [go_sem, Mi.h] <;> rfl)) ?_
    rintro v h' ⟨rfl, rfl⟩
    by_cases hp : (p0.put t n).2 = 0
    rotate_left
    · have hp1 : decide ((p0.put t n).2 = 0) = false := decide_eq_false hp
      generalize p0.put t n = r at hp1
      obtain ⟨m1, e1⟩ := r
      simp only at hp1
      unfold Mi.h
      ((with_reducible first | apply WO2_finw | apply WO2_fina); ((conv => lhs; simp only [go_sem, ibin, ishift, hp1]) <;> with_reducible rfl))
      (repeat' with_reducible first | refine thn2_nrm ?_ | refine thn2_ret ?_ | refine thn2_ex ?_ | refine blk2_nrm ?_ | refine blk2_ret ?_ | refine blk2_at ?_ | (refine blk2_ex ?_ ?_; decide) | refine W2_sas ?_ | refine W2_ss ?_ | refine W2_sret ?_ | refine W2_sexit ?_ | ((first | apply W2_sra | apply W2_srda | apply W2_runa | apply W2_runda); (conv => lhs; simp only [go_sem, ibin, ishift]) <;> rfl) | ((first | apply W2_srS | apply W2_runS); decide +kernel; (conv => lhs; simp only [go_sem, ibin, ishift]) <;> rfl) | ((first | apply W2_sct | apply W2_t2); (conv => lhs; simp only [go_sem]) <;> rfl; rfl) | ((first | apply W2_scf | apply W2_f2); (conv => lhs; simp only [go_sem]) <;> rfl; rfl) | refine W2_ret ?_ | refine W2_exit ?_ | refine W2_skip ?_ | refine W2_seq ?_ | refine W2_block ?_)
      refine ⟨by first | exact .inr rfl | exact .inl rfl, _, _, (by (conv => lhs; simp only [go_sem, ibin, ishift]) <;> with_reducible rfl), (by (conv => lhs; simp only [go_sem, ibin, ishift]) <;> with_reducible rfl), ?_⟩
      refine ⟨[], by decide, rfl, ?_⟩
      rfl
    have hL0 := lone_put (l := l) hk0 he0 hl0 hd0 hz0 hp
    rw [hp]
    generalize (p0.put t n).1 = m0 at hL0
    unfold Mi.h
    ((with_reducible first | apply WO2_finw | apply WO2_fina); ((conv => lhs; simp only [go_sem, ibin, ishift]) <;> with_reducible rfl))
    (repeat' with_reducible first | refine thn2_nrm ?_ | refine thn2_ret ?_ | refine thn2_ex ?_ | refine blk2_nrm ?_ | refine blk2_ret ?_ | refine blk2_at ?_ | (refine blk2_ex ?_ ?_; decide) | refine W2_sas ?_ | refine W2_ss ?_ | refine W2_sret ?_ | refine W2_sexit ?_ | ((first | apply W2_sra | apply W2_srda | apply W2_runa | apply W2_runda); (conv => lhs; simp only [go_sem, ibin, ishift]) <;> rfl) | ((first | apply W2_srS | apply W2_runS); decide +kernel; (conv => lhs; simp only [go_sem, ibin, ishift]) <;> rfl) | ((first | apply W2_sct | apply W2_t2); (conv => lhs; simp only [go_sem]) <;> rfl; rfl) | ((first | apply W2_scf | apply W2_f2); (conv => lhs; simp only [go_sem]) <;> rfl; rfl) | refine W2_ret ?_ | refine W2_exit ?_ | refine W2_skip ?_ | refine W2_seq ?_ | refine W2_block ?_)
    refine W2_loopu (fun mm u g => ∃ (i : Nat) (at_ : Int) (m : Mi), i + mm = 50 ∧ Lone l t at_ m ∧ u = [(11, .i .i64 at_), (12, .i .i64 i)] ∧ g = [(2, .obj (.fz 2 (m.es.map cD) :: ((m.w.map fun n => SV.p (PV.i .i64 n)) ++ [.sl 1 3 0 m.at_.length none, .sl 4 4 0 m.ds.length none]))), (3, .arr 1 (m.at_.map cI)), (4, .arr 4 (m.ds.map cMd))]) 50 ⟨0, n, m0, by omega, hL0, rfl, rfl⟩ rfl rfl ?_
    rintro mm u g ⟨i, at_, m, hi, hL, rfl, rfl⟩
    intro e1 h1 he1 hh1; simp only [egd, supE, hgd, supH, Nat.reduceEqDiff, Nat.reduceAdd, if_true, if_false, reduceIte] at he1 hh1; subst he1; subst hh1
    by_cases hil : i < s.length ∧ i < 50
    rotate_left
    · have hdec : (decide (i < s.length) && decide ((i : Int) < 50)) = false := by
        by_cases h : i < s.length
        · rw [decide_eq_false (show ¬((i : Int) < 50) by omega)]; simp
        · rw [decide_eq_false h]; rfl
      have hloc := hL.loc
      have hkm := hL.ok
      ((repeat' with_reducible first | refine thn2_nrm ?_ | refine thn2_ret ?_ | refine thn2_ex ?_ | refine blk2_nrm ?_ | refine blk2_ret ?_ | refine blk2_at ?_ | (refine blk2_ex ?_ ?_; decide) | refine W2_sas ?_ | refine W2_ss ?_ | refine W2_sret ?_ | refine W2_sexit ?_ | refine W2_skip ?_ | ((first | apply W2_sct | apply W2_t2); (conv => lhs; simp only [go_sem]) <;> rfl; rfl) | ((first | apply W2_scf | apply W2_f2); (conv => lhs; simp only [go_sem]) <;> rfl; rfl) | refine W2_block ?_ | refine W2_seq ?_ | refine W2_exit ?_); (first | ((with_reducible first | apply W2_sra | apply W2_srda | apply W2_runa | apply W2_runda); ((conv => lhs; simp only [go_sem, ibin, ishift]) <;> with_reducible rfl)) | ((with_reducible first | apply W2_srS | apply W2_runS); decide +kernel; ((conv => lhs; simp only [go_sem, ibin, ishift]) <;> with_reducible rfl))))
      rw [hdec]
      (repeat' with_reducible first | refine thn2_nrm ?_ | refine thn2_ret ?_ | refine thn2_ex ?_ | refine blk2_nrm ?_ | refine blk2_ret ?_ | refine blk2_at ?_ | (refine blk2_ex ?_ ?_; decide) | refine W2_sas ?_ | refine W2_ss ?_ | refine W2_sret ?_ | refine W2_sexit ?_ | ((first | apply W2_sra | apply W2_srda | apply W2_runa | apply W2_runda); (conv => lhs; simp only [go_sem, ibin, ishift]) <;> rfl) | ((first | apply W2_srS | apply W2_runS); decide +kernel; (conv => lhs; simp only [go_sem, ibin, ishift]) <;> rfl) | ((first | apply W2_sct | apply W2_t2); (conv => lhs; simp only [go_sem]) <;> rfl; rfl) | ((first | apply W2_scf | apply W2_f2); (conv => lhs; simp only [go_sem]) <;> rfl; rfl) | refine W2_ret ?_ | refine W2_exit ?_ | refine W2_skip ?_ | refine W2_seq ?_ | refine W2_block ?_)
      (first | (((with_reducible first | apply W2_scall | apply W2_scalld | apply W2_calla | apply W2_callda | apply run2a_sound); ((conv => lhs; simp only [go_sem, ibin, ishift]) <;> with_reducible rfl))) | ((with_reducible first | apply W2_scallS | apply W2_callS); decide +kernel; ((conv => lhs; simp only [go_sem, ibin, ishift]) <;> with_reducible rfl)))
      refine CK_call [2, 3, 4] (where_spec c.toTabM m hkm t) (by decide) (by simp) rfl rfl (by first | rfl | (simp only [go_sem, Mi.h]; done) | (simp only [go_sem, Mi.h] <;> rfl)) ?_
      rintro v h' ⟨rfl, rfl⟩
      rw [hloc]
      unfold Mi.h
      have da : decide (at_ = at_) = true := by simp
      ((with_reducible first | apply WO2_finw | apply WO2_fina); ((conv => lhs; simp only [go_sem, ibin, ishift, da]) <;> with_reducible rfl))
      (repeat' with_reducible first | refine thn2_nrm ?_ | refine thn2_ret ?_ | refine thn2_ex ?_ | refine blk2_nrm ?_ | refine blk2_ret ?_ | refine blk2_at ?_ | (refine blk2_ex ?_ ?_; decide) | refine W2_sas ?_ | refine W2_ss ?_ | refine W2_sret ?_ | refine W2_sexit ?_ | ((first | apply W2_sra | apply W2_srda | apply W2_runa | apply W2_runda); (conv => lhs; simp only [go_sem, ibin, ishift]) <;> rfl) | ((first | apply W2_srS | apply W2_runS); decide +kernel; (conv => lhs; simp only [go_sem, ibin, ishift]) <;> rfl) | ((first | apply W2_sct | apply W2_t2); (conv => lhs; simp only [go_sem]) <;> rfl; rfl) | ((first | apply W2_scf | apply W2_f2); (conv => lhs; simp only [go_sem]) <;> rfl; rfl) | refine W2_ret ?_ | refine W2_exit ?_ | refine W2_skip ?_ | refine W2_seq ?_ | refine W2_block ?_)
      refine ⟨by first | exact .inr rfl | exact .inl rfl, _, _, (by (conv => lhs; simp only [go_sem, ibin, ishift]) <;> with_reducible rfl), (by (conv => lhs; simp only [go_sem, ibin, ishift]) <;> with_reducible rfl), ?_⟩
      refine ⟨[], by decide, rfl, ?_⟩
      rfl
    obtain ⟨hil, hi2⟩ := hil
    have hz := good_sz hg
    have hg := List.getElem?_eq_getElem hil
    generalize s[i] = d at hg
    have h0 : (0 : Int) ≤ (i : Int) := by omega
    have h1 : (i : Int) < (s.length : Int) := by omega
    have h2 : (i : Int) < 50 := by omega
    have d1 : decide ((i : Int) < (s.length : Int)) = true := decide_eq_true h1
    have d2 : decide ((i : Int) < 50) = true := decide_eq_true h2
    have wi1 := wS (show i < 9223372036854775807 by omega)
    have hkm := hL.ok
    by_cases hok : ∃ e, 1 ≤ d ∧ d ≤ l.es.length ∧ l.es[(d - 1).toNat]? = some e ∧ e.a = at_
    · obtain ⟨e, k1, k2, he, ha⟩ := hok
      obtain ⟨m1, m2, q1, q2, q3, q4, q5, q6, q7, q8⟩ := hL.step ⟨k1, k2⟩ he ha (show 0 ≤ (i : Int) ∧ (i : Int) ≤ 65535 by omega)
      have hk2 := q4.ok
      have hw2 := hk2.wl
      have e1 : decide (d ≥ 1) = true := decide_eq_true k1
      have e2 : decide (d ≤ (l.es.length : Int)) = true := decide_eq_true k2
      have e3 : decide (e.a = at_) = true := decide_eq_true ha
      have wd : IntKind.i64.wrap (d - 1) = d - 1 := wi _ (by omega) (by omega)
      have r0 : (0 : Int) ≤ d - 1 := by omega
      have r1 : d - 1 < (l.es.length : Int) := by omega
      have r2 : (d - 1).toNat < l.es.length := by omega
      have eb : decide (e.b = e.b) = true := by simp
      have et : decide (t = t) = true := by simp
      (repeat' with_reducible first | refine thn2_nrm ?_ | refine thn2_ret ?_ | refine thn2_ex ?_ | refine blk2_nrm ?_ | refine blk2_ret ?_ | refine blk2_at ?_ | (refine blk2_ex ?_ ?_; decide) | refine W2_sas ?_ | refine W2_ss ?_ | refine W2_sret ?_ | refine W2_sexit ?_ | ((first | apply W2_sra | apply W2_srda | apply W2_runa | apply W2_runda); (conv => lhs; simp only [go_sem, ibin, ishift, d1, d2, h1, h2, h0, hil, hg, cI, e1, e2, e3, wd, r0, r1, r2, he, cD]) <;> rfl) | ((first | apply W2_srS | apply W2_runS); decide +kernel; (conv => lhs; simp only [go_sem, ibin, ishift, d1, d2, h1, h2, h0, hil, hg, cI, e1, e2, e3, wd, r0, r1, r2, he, cD]) <;> rfl) | ((first | apply W2_sct | apply W2_t2); (conv => lhs; simp only [go_sem]) <;> rfl; rfl) | ((first | apply W2_scf | apply W2_f2); (conv => lhs; simp only [go_sem]) <;> rfl; rfl) | refine W2_ret ?_ | refine W2_exit ?_ | refine W2_skip ?_ | refine W2_seq ?_ | refine W2_block ?_)
      (first | (((with_reducible first | apply W2_scall | apply W2_scalld | apply W2_calla | apply W2_callda | apply run2a_sound); ((conv => lhs; simp only [go_sem, ibin, ishift]) <;> with_reducible rfl))) | ((with_reducible first | apply W2_scallS | apply W2_callS); decide +kernel; ((conv => lhs; simp only [go_sem, ibin, ishift]) <;> with_reducible rfl)))
      refine CK_call [2, 3, 4] (send_spec c.toTabM m hkm d t i) (by decide) (by simp) rfl rfl (by first | rfl | (simp only [go_sem, Mi.h]; done) | (simp only [go_sem, Mi.h] <;> rfl)) ?_
      rintro v h' ⟨rfl, rfl⟩
      rw [q1]
      unfold Mi.h
      ((with_reducible first | apply WO2_finw | apply WO2_fina); ((conv => lhs; simp only [go_sem, ibin, ishift]) <;> with_reducible rfl))
      (repeat' with_reducible first | refine thn2_nrm ?_ | refine thn2_ret ?_ | refine thn2_ex ?_ | refine blk2_nrm ?_ | refine blk2_ret ?_ | refine blk2_at ?_ | (refine blk2_ex ?_ ?_; decide) | refine W2_sas ?_ | refine W2_ss ?_ | refine W2_sret ?_ | refine W2_sexit ?_ | ((first | apply W2_sra | apply W2_srda | apply W2_runa | apply W2_runda); (conv => lhs; simp only [go_sem, ibin, ishift]) <;> rfl) | ((first | apply W2_srS | apply W2_runS); decide +kernel; (conv => lhs; simp only [go_sem, ibin, ishift]) <;> rfl) | ((first | apply W2_sct | apply W2_t2); (conv => lhs; simp only [go_sem]) <;> rfl; rfl) | ((first | apply W2_scf | apply W2_f2); (conv => lhs; simp only [go_sem]) <;> rfl; rfl) | refine W2_ret ?_ | refine W2_exit ?_ | refine W2_skip ?_ | refine W2_seq ?_ | refine W2_block ?_)
      (first | (((with_reducible first | apply W2_scall | apply W2_scalld | apply W2_calla | apply W2_callda | apply run2a_sound); ((conv => lhs; simp only [go_sem, ibin, ishift]) <;> with_reducible rfl))) | ((with_reducible first | apply W2_scallS | apply W2_callS); decide +kernel; ((conv => lhs; simp only [go_sem, ibin, ishift]) <;> with_reducible rfl)))
      refine CK_call [2, 3, 4] (moved_spec c.toTabM m1 q2 d t) (by decide) (by simp) rfl rfl (by first | rfl | (simp only [go_sem, Mi.h]; done) | (simp only [go_sem, Mi.h] <;> rfl)) ?_
      rintro v h' ⟨rfl, rfl⟩
      rw [q3]
      unfold Mi.h
      (first | (((with_reducible first | apply W2_scall | apply W2_scalld | apply W2_calla | apply W2_callda | apply run2a_sound); ((conv => lhs; simp only [go_sem, ibin, ishift]) <;> with_reducible rfl))) | ((with_reducible first | apply W2_scallS | apply W2_callS); decide +kernel; ((conv => lhs; simp only [go_sem, ibin, ishift]) <;> with_reducible rfl)))
      refine CK_call [2, 3, 4] (taken_spec c.toTabM m2 hk2 at_) (by decide) (by simp) rfl rfl (by first | rfl | (simp only [go_sem, Mi.h]; done) | (simp only [go_sem, Mi.h] <;> rfl)) ?_
      rintro v h' ⟨rfl, rfl⟩
      rw [q7]
      unfold Mi.h
      (first | (((with_reducible first | apply W2_scall | apply W2_scalld | apply W2_calla | apply W2_callda | apply run2a_sound); ((conv => lhs; simp only [go_sem, ibin, ishift]) <;> with_reducible rfl))) | ((with_reducible first | apply W2_scallS | apply W2_callS); decide +kernel; ((conv => lhs; simp only [go_sem, ibin, ishift]) <;> with_reducible rfl)))
      refine CK_call [2, 3, 4] (at_spec c.toTabM m2 hw2 at_) (by decide) (by simp) rfl rfl (by first | rfl | (simp only [go_sem, Mi.h]; done) | (simp only [go_sem, Mi.h] <;> rfl)) ?_
      rintro v h' ⟨rfl, rfl⟩
      rw [q8]
      unfold Mi.h
      ((with_reducible first | apply WO2_finw | apply WO2_fina); ((conv => lhs; simp only [go_sem, ibin, ishift]) <;> with_reducible rfl))
      (repeat' with_reducible first | refine thn2_nrm ?_ | refine thn2_ret ?_ | refine thn2_ex ?_ | refine blk2_nrm ?_ | refine blk2_ret ?_ | refine blk2_at ?_ | (refine blk2_ex ?_ ?_; decide) | refine W2_sas ?_ | refine W2_ss ?_ | refine W2_sret ?_ | refine W2_sexit ?_ | ((first | apply W2_sra | apply W2_srda | apply W2_runa | apply W2_runda); (conv => lhs; simp only [go_sem, ibin, ishift, wd, r0, r1, r2, he, cD]) <;> rfl) | ((first | apply W2_srS | apply W2_runS); decide +kernel; (conv => lhs; simp only [go_sem, ibin, ishift, wd, r0, r1, r2, he, cD]) <;> rfl) | ((first | apply W2_sct | apply W2_t2); (conv => lhs; simp only [go_sem]) <;> rfl; rfl) | ((first | apply W2_scf | apply W2_f2); (conv => lhs; simp only [go_sem]) <;> rfl; rfl) | refine W2_ret ?_ | refine W2_exit ?_ | refine W2_skip ?_ | refine W2_seq ?_ | refine W2_block ?_)
      (first | (((with_reducible first | apply W2_scall | apply W2_scalld | apply W2_calla | apply W2_callda | apply run2a_sound); ((conv => lhs; simp only [go_sem, ibin, ishift]) <;> with_reducible rfl))) | ((with_reducible first | apply W2_scallS | apply W2_callS); decide +kernel; ((conv => lhs; simp only [go_sem, ibin, ishift]) <;> with_reducible rfl)))
      refine CK_call [2, 3, 4] (where_spec c.toTabM m2 hk2 t) (by decide) (by simp) rfl rfl (by first | rfl | (simp only [go_sem, Mi.h]; done) | (simp only [go_sem, Mi.h] <;> rfl)) ?_
      rintro v h' ⟨rfl, rfl⟩
      rw [q4.loc]
      unfold Mi.h
      (first | (((with_reducible first | apply W2_scall | apply W2_scalld | apply W2_calla | apply W2_callda | apply run2a_sound); ((conv => lhs; simp only [go_sem, ibin, ishift, eb]) <;> with_reducible rfl))) | ((with_reducible first | apply W2_scallS | apply W2_callS); decide +kernel; ((conv => lhs; simp only [go_sem, ibin, ishift, eb]) <;> with_reducible rfl)))
      refine CK_call [2, 3, 4] (at_spec c.toTabM m2 hw2 e.b) (by decide) (by simp) rfl rfl (by first | rfl | (simp only [go_sem, Mi.h]; done) | (simp only [go_sem, Mi.h] <;> rfl)) ?_
      rintro v h' ⟨rfl, rfl⟩
      rw [q4.tote ⟨q5, q6⟩, if_pos rfl]
      unfold Mi.h
      ((with_reducible first | apply WO2_finw | apply WO2_fina); ((conv => lhs; simp only [go_sem, ibin, ishift, eb, et]) <;> with_reducible rfl))
      (repeat' with_reducible first | refine thn2_nrm ?_ | refine thn2_ret ?_ | refine thn2_ex ?_ | refine blk2_nrm ?_ | refine blk2_ret ?_ | refine blk2_at ?_ | (refine blk2_ex ?_ ?_; decide) | refine W2_sas ?_ | refine W2_ss ?_ | refine W2_sret ?_ | refine W2_sexit ?_ | ((first | apply W2_sra | apply W2_srda | apply W2_runa | apply W2_runda); (conv => lhs; simp only [go_sem, ibin, ishift, wi1]) <;> rfl) | ((first | apply W2_srS | apply W2_runS); decide +kernel; (conv => lhs; simp only [go_sem, ibin, ishift, wi1]) <;> rfl) | ((first | apply W2_sct | apply W2_t2); (conv => lhs; simp only [go_sem]) <;> rfl; rfl) | ((first | apply W2_scf | apply W2_f2); (conv => lhs; simp only [go_sem]) <;> rfl; rfl) | refine W2_ret ?_ | refine W2_exit ?_ | refine W2_skip ?_ | refine W2_seq ?_ | refine W2_block ?_)
      refine ⟨[0, 1, 2, 3, 4], by decide, rfl, ?_⟩
      exact ⟨50 - (i + 1), _, _, by omega, ⟨i + 1, e.b, m2, by omega, q4, rfl, rfl⟩, rfl, (by first | rfl | ((conv => lhs; simp only [go_sem, ibin, ishift]) <;> rfl))⟩
    · obtain ⟨q1, q2⟩ := hL.refuse (d := d) (s := i) fun e k1 k2 he ha => hok ⟨e, k1, k2, he, ha⟩
      have q3 : decide ((m.send d t i).2 = 0) = false := decide_eq_false q1
      by_cases k1 : d ≥ 1
      rotate_left
      · have e1 : decide (d ≥ 1) = false := decide_eq_false k1
        (repeat' with_reducible first | refine thn2_nrm ?_ | refine thn2_ret ?_ | refine thn2_ex ?_ | refine blk2_nrm ?_ | refine blk2_ret ?_ | refine blk2_at ?_ | (refine blk2_ex ?_ ?_; decide) | refine W2_sas ?_ | refine W2_ss ?_ | refine W2_sret ?_ | refine W2_sexit ?_ | ((first | apply W2_sra | apply W2_srda | apply W2_runa | apply W2_runda); (conv => lhs; simp only [go_sem, ibin, ishift, d1, d2, h1, h2, h0, hil, hg, cI]) <;> rfl) | ((first | apply W2_srS | apply W2_runS); decide +kernel; (conv => lhs; simp only [go_sem, ibin, ishift, d1, d2, h1, h2, h0, hil, hg, cI]) <;> rfl) | ((first | apply W2_sct | apply W2_t2); (conv => lhs; simp only [go_sem]) <;> rfl; rfl) | ((first | apply W2_scf | apply W2_f2); (conv => lhs; simp only [go_sem]) <;> rfl; rfl) | refine W2_ret ?_ | refine W2_exit ?_ | refine W2_skip ?_ | refine W2_seq ?_ | refine W2_block ?_)
        (repeat' with_reducible first | refine thn2_nrm ?_ | refine thn2_ret ?_ | refine thn2_ex ?_ | refine blk2_nrm ?_ | refine blk2_ret ?_ | refine blk2_at ?_ | (refine blk2_ex ?_ ?_; decide) | refine W2_sas ?_ | refine W2_ss ?_ | refine W2_sret ?_ | refine W2_sexit ?_ | refine W2_skip ?_ | ((first | apply W2_sct | apply W2_t2); (conv => lhs; simp only [go_sem]) <;> rfl; rfl) | ((first | apply W2_scf | apply W2_f2); (conv => lhs; simp only [go_sem]) <;> rfl; rfl) | refine W2_block ?_)
        (with_reducible first | apply W2_srl | apply W2_runl); ((conv => lhs; simp only [go_sem, ibin, ishift, e1]) <;> with_reducible rfl)
        (repeat' with_reducible first | refine thn2_nrm ?_ | refine thn2_ret ?_ | refine thn2_ex ?_ | refine blk2_nrm ?_ | refine blk2_ret ?_ | refine blk2_at ?_ | (refine blk2_ex ?_ ?_; decide) | refine W2_sas ?_ | refine W2_ss ?_ | refine W2_sret ?_ | refine W2_sexit ?_ | ((first | apply W2_sra | apply W2_srda | apply W2_runa | apply W2_runda); (conv => lhs; simp only [go_sem, ibin, ishift]) <;> rfl) | ((first | apply W2_srS | apply W2_runS); decide +kernel; (conv => lhs; simp only [go_sem, ibin, ishift]) <;> rfl) | ((first | apply W2_sct | apply W2_t2); (conv => lhs; simp only [go_sem]) <;> rfl; rfl) | ((first | apply W2_scf | apply W2_f2); (conv => lhs; simp only [go_sem]) <;> rfl; rfl) | refine W2_ret ?_ | refine W2_exit ?_ | refine W2_skip ?_ | refine W2_seq ?_ | refine W2_block ?_)
        (first | (((with_reducible first | apply W2_scall | apply W2_scalld | apply W2_calla | apply W2_callda | apply run2a_sound); ((conv => lhs; simp only [go_sem, ibin, ishift]) <;> with_reducible rfl))) | ((with_reducible first | apply W2_scallS | apply W2_callS); decide +kernel; ((conv => lhs; simp only [go_sem, ibin, ishift]) <;> with_reducible rfl)))
        refine CK_call [2, 3, 4] (send_spec c.toTabM m hkm d t i) (by decide) (by simp) rfl rfl (by first | rfl | (simp only [go_sem, Mi.h]; done) | (simp only [go_sem, Mi.h] <;> rfl)) ?_
        rintro v h' ⟨rfl, rfl⟩
        rw [q2]
        unfold Mi.h
        ((with_reducible first | apply WO2_finw | apply WO2_fina); ((conv => lhs; simp only [go_sem, ibin, ishift, q3]) <;> with_reducible rfl))
        (repeat' with_reducible first | refine thn2_nrm ?_ | refine thn2_ret ?_ | refine thn2_ex ?_ | refine blk2_nrm ?_ | refine blk2_ret ?_ | refine blk2_at ?_ | (refine blk2_ex ?_ ?_; decide) | refine W2_sas ?_ | refine W2_ss ?_ | refine W2_sret ?_ | refine W2_sexit ?_ | ((first | apply W2_sra | apply W2_srda | apply W2_runa | apply W2_runda); (conv => lhs; simp only [go_sem, ibin, ishift, wi1]) <;> rfl) | ((first | apply W2_srS | apply W2_runS); decide +kernel; (conv => lhs; simp only [go_sem, ibin, ishift, wi1]) <;> rfl) | ((first | apply W2_sct | apply W2_t2); (conv => lhs; simp only [go_sem]) <;> rfl; rfl) | ((first | apply W2_scf | apply W2_f2); (conv => lhs; simp only [go_sem]) <;> rfl; rfl) | refine W2_ret ?_ | refine W2_exit ?_ | refine W2_skip ?_ | refine W2_seq ?_ | refine W2_block ?_)
        refine ⟨[0, 1, 2, 3, 4], by decide, rfl, ?_⟩
        exact ⟨50 - (i + 1), _, _, by omega, ⟨i + 1, at_, m, by omega, hL, rfl, rfl⟩, rfl, (by first | rfl | ((conv => lhs; simp only [go_sem, ibin, ishift]) <;> rfl))⟩
      have e1 : decide (d ≥ 1) = true := decide_eq_true k1
      by_cases k2 : d ≤ (l.es.length : Int)
      rotate_left
      · have e2 : decide (d ≤ (l.es.length : Int)) = false := decide_eq_false k2
        (repeat' with_reducible first | refine thn2_nrm ?_ | refine thn2_ret ?_ | refine thn2_ex ?_ | refine blk2_nrm ?_ | refine blk2_ret ?_ | refine blk2_at ?_ | (refine blk2_ex ?_ ?_; decide) | refine W2_sas ?_ | refine W2_ss ?_ | refine W2_sret ?_ | refine W2_sexit ?_ | ((first | apply W2_sra | apply W2_srda | apply W2_runa | apply W2_runda); (conv => lhs; simp only [go_sem, ibin, ishift, d1, d2, h1, h2, h0, hil, hg, cI]) <;> rfl) | ((first | apply W2_srS | apply W2_runS); decide +kernel; (conv => lhs; simp only [go_sem, ibin, ishift, d1, d2, h1, h2, h0, hil, hg, cI]) <;> rfl) | ((first | apply W2_sct | apply W2_t2); (conv => lhs; simp only [go_sem]) <;> rfl; rfl) | ((first | apply W2_scf | apply W2_f2); (conv => lhs; simp only [go_sem]) <;> rfl; rfl) | refine W2_ret ?_ | refine W2_exit ?_ | refine W2_skip ?_ | refine W2_seq ?_ | refine W2_block ?_)
        (repeat' with_reducible first | refine thn2_nrm ?_ | refine thn2_ret ?_ | refine thn2_ex ?_ | refine blk2_nrm ?_ | refine blk2_ret ?_ | refine blk2_at ?_ | (refine blk2_ex ?_ ?_; decide) | refine W2_sas ?_ | refine W2_ss ?_ | refine W2_sret ?_ | refine W2_sexit ?_ | refine W2_skip ?_ | ((first | apply W2_sct | apply W2_t2); (conv => lhs; simp only [go_sem]) <;> rfl; rfl) | ((first | apply W2_scf | apply W2_f2); (conv => lhs; simp only [go_sem]) <;> rfl; rfl) | refine W2_block ?_)
        (with_reducible first | apply W2_srl | apply W2_runl); ((conv => lhs; simp only [go_sem, ibin, ishift, e1, e2]) <;> with_reducible rfl)
        (repeat' with_reducible first | refine thn2_nrm ?_ | refine thn2_ret ?_ | refine thn2_ex ?_ | refine blk2_nrm ?_ | refine blk2_ret ?_ | refine blk2_at ?_ | (refine blk2_ex ?_ ?_; decide) | refine W2_sas ?_ | refine W2_ss ?_ | refine W2_sret ?_ | refine W2_sexit ?_ | ((first | apply W2_sra | apply W2_srda | apply W2_runa | apply W2_runda); (conv => lhs; simp only [go_sem, ibin, ishift]) <;> rfl) | ((first | apply W2_srS | apply W2_runS); decide +kernel; (conv => lhs; simp only [go_sem, ibin, ishift]) <;> rfl) | ((first | apply W2_sct | apply W2_t2); (conv => lhs; simp only [go_sem]) <;> rfl; rfl) | ((first | apply W2_scf | apply W2_f2); (conv => lhs; simp only [go_sem]) <;> rfl; rfl) | refine W2_ret ?_ | refine W2_exit ?_ | refine W2_skip ?_ | refine W2_seq ?_ | refine W2_block ?_)
        (first | (((with_reducible first | apply W2_scall | apply W2_scalld | apply W2_calla | apply W2_callda | apply run2a_sound); ((conv => lhs; simp only [go_sem, ibin, ishift]) <;> with_reducible rfl))) | ((with_reducible first | apply W2_scallS | apply W2_callS); decide +kernel; ((conv => lhs; simp only [go_sem, ibin, ishift]) <;> with_reducible rfl)))
        refine CK_call [2, 3, 4] (send_spec c.toTabM m hkm d t i) (by decide) (by simp) rfl rfl (by first | rfl | (simp only [go_sem, Mi.h]; done) | (simp only [go_sem, Mi.h] <;> rfl)) ?_
        rintro v h' ⟨rfl, rfl⟩
        rw [q2]
        unfold Mi.h
        ((with_reducible first | apply WO2_finw | apply WO2_fina); ((conv => lhs; simp only [go_sem, ibin, ishift, q3]) <;> with_reducible rfl))
        (repeat' with_reducible first | refine thn2_nrm ?_ | refine thn2_ret ?_ | refine thn2_ex ?_ | refine blk2_nrm ?_ | refine blk2_ret ?_ | refine blk2_at ?_ | (refine blk2_ex ?_ ?_; decide) | refine W2_sas ?_ | refine W2_ss ?_ | refine W2_sret ?_ | refine W2_sexit ?_ | ((first | apply W2_sra | apply W2_srda | apply W2_runa | apply W2_runda); (conv => lhs; simp only [go_sem, ibin, ishift, wi1]) <;> rfl) | ((first | apply W2_srS | apply W2_runS); decide +kernel; (conv => lhs; simp only [go_sem, ibin, ishift, wi1]) <;> rfl) | ((first | apply W2_sct | apply W2_t2); (conv => lhs; simp only [go_sem]) <;> rfl; rfl) | ((first | apply W2_scf | apply W2_f2); (conv => lhs; simp only [go_sem]) <;> rfl; rfl) | refine W2_ret ?_ | refine W2_exit ?_ | refine W2_skip ?_ | refine W2_seq ?_ | refine W2_block ?_)
        refine ⟨[0, 1, 2, 3, 4], by decide, rfl, ?_⟩
        exact ⟨50 - (i + 1), _, _, by omega, ⟨i + 1, at_, m, by omega, hL, rfl, rfl⟩, rfl, (by first | rfl | ((conv => lhs; simp only [go_sem, ibin, ishift]) <;> rfl))⟩
      have e2 : decide (d ≤ (l.es.length : Int)) = true := decide_eq_true k2
      have wd : IntKind.i64.wrap (d - 1) = d - 1 := wi _ (by omega) (by omega)
      have r0 : (0 : Int) ≤ d - 1 := by omega
      have r1 : d - 1 < (l.es.length : Int) := by omega
      have r2 : (d - 1).toNat < l.es.length := by omega
      obtain ⟨e, he⟩ : ∃ e, l.es[(d - 1).toNat]? = some e := ⟨_, List.getElem?_eq_getElem r2⟩
      have e3 : decide (e.a = at_) = false := decide_eq_false fun h => hok ⟨e, k1, k2, he, h⟩
      (repeat' with_reducible first | refine thn2_nrm ?_ | refine thn2_ret ?_ | refine thn2_ex ?_ | refine blk2_nrm ?_ | refine blk2_ret ?_ | refine blk2_at ?_ | (refine blk2_ex ?_ ?_; decide) | refine W2_sas ?_ | refine W2_ss ?_ | refine W2_sret ?_ | refine W2_sexit ?_ | ((first | apply W2_sra | apply W2_srda | apply W2_runa | apply W2_runda); (conv => lhs; simp only [go_sem, ibin, ishift, d1, d2, h1, h2, h0, hil, hg, cI, e1, e2, e3, wd, r0, r1, r2, he, cD]) <;> rfl) | ((first | apply W2_srS | apply W2_runS); decide +kernel; (conv => lhs; simp only [go_sem, ibin, ishift, d1, d2, h1, h2, h0, hil, hg, cI, e1, e2, e3, wd, r0, r1, r2, he, cD]) <;> rfl) | ((first | apply W2_sct | apply W2_t2); (conv => lhs; simp only [go_sem]) <;> rfl; rfl) | ((first | apply W2_scf | apply W2_f2); (conv => lhs; simp only [go_sem]) <;> rfl; rfl) | refine W2_ret ?_ | refine W2_exit ?_ | refine W2_skip ?_ | refine W2_seq ?_ | refine W2_block ?_)
      (repeat' with_reducible first | refine thn2_nrm ?_ | refine thn2_ret ?_ | refine thn2_ex ?_ | refine blk2_nrm ?_ | refine blk2_ret ?_ | refine blk2_at ?_ | (refine blk2_ex ?_ ?_; decide) | refine W2_sas ?_ | refine W2_ss ?_ | refine W2_sret ?_ | refine W2_sexit ?_ | ((first | apply W2_sra | apply W2_srda | apply W2_runa | apply W2_runda); (conv => lhs; simp only [go_sem, ibin, ishift]) <;> rfl) | ((first | apply W2_srS | apply W2_runS); decide +kernel; (conv => lhs; simp only [go_sem, ibin, ishift]) <;> rfl) | ((first | apply W2_sct | apply W2_t2); (conv => lhs; simp only [go_sem]) <;> rfl; rfl) | ((first | apply W2_scf | apply W2_f2); (conv => lhs; simp only [go_sem]) <;> rfl; rfl) | refine W2_ret ?_ | refine W2_exit ?_ | refine W2_skip ?_ | refine W2_seq ?_ | refine W2_block ?_)
      (first | (((with_reducible first | apply W2_scall | apply W2_scalld | apply W2_calla | apply W2_callda | apply run2a_sound); ((conv => lhs; simp only [go_sem, ibin, ishift]) <;> with_reducible rfl))) | ((with_reducible first | apply W2_scallS | apply W2_callS); decide +kernel; ((conv => lhs; simp only [go_sem, ibin, ishift]) <;> with_reducible rfl)))
      refine CK_call [2, 3, 4] (send_spec c.toTabM m hkm d t i) (by decide) (by simp) rfl rfl (by first | rfl | (simp only [go_sem, Mi.h]; done) | (simp only [go_sem, Mi.h] <;> rfl)) ?_
      rintro v h' ⟨rfl, rfl⟩
      rw [q2]
      unfold Mi.h
      ((with_reducible first | apply WO2_finw | apply WO2_fina); ((conv => lhs; simp only [go_sem, ibin, ishift, q3]) <;> with_reducible rfl))
      (repeat' with_reducible first | refine thn2_nrm ?_ | refine thn2_ret ?_ | refine thn2_ex ?_ | refine blk2_nrm ?_ | refine blk2_ret ?_ | refine blk2_at ?_ | (refine blk2_ex ?_ ?_; decide) | refine W2_sas ?_ | refine W2_ss ?_ | refine W2_sret ?_ | refine W2_sexit ?_ | ((first | apply W2_sra | apply W2_srda | apply W2_runa | apply W2_runda); (conv => lhs; simp only [go_sem, ibin, ishift, wi1]) <;> rfl) | ((first | apply W2_srS | apply W2_runS); decide +kernel; (conv => lhs; simp only [go_sem, ibin, ishift, wi1]) <;> rfl) | ((first | apply W2_sct | apply W2_t2); (conv => lhs; simp only [go_sem]) <;> rfl; rfl) | ((first | apply W2_scf | apply W2_f2); (conv => lhs; simp only [go_sem]) <;> rfl; rfl) | refine W2_ret ?_ | refine W2_exit ?_ | refine W2_skip ?_ | refine W2_seq ?_ | refine W2_block ?_)
      refine ⟨[0, 1, 2, 3, 4], by decide, rfl, ?_⟩
      exact ⟨50 - (i + 1), _, _, by omega, ⟨i + 1, at_, m, by omega, hL, rfl, rfl⟩, rfl, (by first | rfl | ((conv => lhs; simp only [go_sem, ibin, ishift]) <;> rfl))⟩
end Go.Proofs.Ytjijhkmimjolhaa.Ab
