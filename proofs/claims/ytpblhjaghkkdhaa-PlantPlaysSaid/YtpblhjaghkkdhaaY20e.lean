/- Chapter 20: the examples; what all statements begin with. -/
import Derived.Test.YtpblhjaghkkdhaaY20d
namespace Go.Proofs.Ytpblhjaghkkdhaa.Ab
open Go
set_option linter.unusedVariables false
set_option linter.unusedSimpArgs false
variable {T : AT}
structure TabA (T : AT) : Prop extends TabP T where
  awake : T i_stillagelaw20_awake = some (.fn c_stillagelaw20_awake)
  few : T i_stillagelaw20_few = some (.fn c_stillagelaw20_few)
def lay0 : Lay := ⟨[⟨[97], 1, 0⟩, ⟨[98], 1, 0⟩, ⟨[99], 1, 0⟩], [⟨0, 1⟩, ⟨1, 2⟩, ⟨2, 0⟩]⟩
def pa1 : Pl := ⟨lay0.es, [5, 0, 0], (Pl.new lay0).ds, 0⟩
def pa2 : Pl := ⟨lay0.es, [0, 5, 0], [⟨false, false, 0, 0⟩, ⟨false, true, 9, 5⟩, ⟨false, false, 0, 0⟩, ⟨false, false, 0, 0⟩], 1⟩
theorem few_spec (c : TabA T) (l : Lay) : Ret2 T 0 i_stillagelaw20_few [l.v] [] (fun v h' => v = .b (decide (l.ns.length ≤ 60 ∧ l.es.length ≤ 200)) ∧ h' = []) := by
  refine Ret2_fnv c.few rfl rfl ?_
  unfold Lay.v
  (repeat' with_reducible first |apply qA|apply qB|apply qC|apply qD|apply qE|apply qF|(apply qG;decide)|apply qH|apply qI|apply qJ|apply qK|((first|apply qL|apply qM|apply qN|apply qO|((first|apply qP|apply qQ);decide +kernel));(conv=>lhs;simp only[go_sem, ibin, ishift])<;>rfl)|((first|apply qR|apply qS);(conv=>lhs;simp only[go_sem])<;>rfl;rfl)|((first|apply qT|apply qU);(conv=>lhs;simp only[go_sem])<;>rfl;rfl)|apply qV|apply qW|apply qX|apply qY|apply qZ)
  refine ⟨by first | exact .inr rfl | exact .inl rfl, _, _, (by (conv => lhs; simp only [go_sem, ibin, ishift]) <;> with_reducible rfl), (by (conv => lhs; simp only [go_sem, ibin, ishift]) <;> with_reducible rfl), ?_⟩
  refine ⟨[], by decide, rfl, ?_⟩
  refine ⟨?_, rfl⟩
  simp only [SV.cv]
  congr 2
  rw [Bool.eq_iff_iff]; simp only [Bool.and_eq_true, decide_eq_true_eq]; omega
theorem awake_spec (c : TabA T) : Ret2 T 0 i_stillagelaw20_awake [] [] (fun v h' => v = .b true ∧ h' = []) := by
  refine Ret2_fnv c.awake rfl rfl ?_
  have hg : lay0.good = true := by rfl
  have p1 : (Pl.new lay0).put 5 0 = (pa1, 0) := rfl
  have p2 : pa1.hear ⟨1, 1, 9, 5, 0⟩ = (pa2, ⟨2, 1, 9, 5, 0⟩, true) := rfl
  have p3 : pa2.hear ⟨1, 1, 8, 5, 0⟩ = (pa2, Te.nil, false) := rfl
  have p4 : pa2.hear ⟨1, 1, 10, 5, 0⟩ = (pa2, ⟨3, 1, 10, 5, 1⟩, true) := rfl
  have k1 : pa1.Ok := ⟨by decide, rfl, by decide, by decide⟩
  have k2 : pa2.Ok := ⟨by decide, rfl, by decide, by decide⟩
  (repeat' with_reducible first |apply qA|apply qB|apply qC|apply qD|apply qE|apply qF|(apply qG;decide)|apply qH|apply qI|apply qJ|apply qK|((first|apply qL|apply qM|apply qN|apply qO|((first|apply qP|apply qQ);decide +kernel));(conv=>lhs;simp only[go_sem, ibin, ishift])<;>rfl)|((first|apply qR|apply qS);(conv=>lhs;simp only[go_sem])<;>rfl;rfl)|((first|apply qT|apply qU);(conv=>lhs;simp only[go_sem])<;>rfl;rfl)|apply qV|apply qW|apply qX|apply qY|apply qZ)
  (with_reducible((first|apply pA|apply pB|apply pC|apply pD|apply pE|((first|apply pF|apply pG);decide +kernel));(conv=>lhs;simp only[go_sem, ibin, ishift])<;>rfl))
  refine CK_frz 0 rfl (by (conv => lhs; simp only [go_sem, ibin, ishift]) <;> with_reducible rfl) (by (conv => lhs; simp only [go_sem, ibin, ishift]) <;> with_reducible rfl) (by (conv => lhs; simp only [go_sem, ibin, ishift]) <;> with_reducible rfl) ?_
  refine CK_frz 1 rfl (by (conv => lhs; simp only [go_sem, ibin, ishift]) <;> with_reducible rfl) (by (conv => lhs; simp only [go_sem, ibin, ishift]) <;> with_reducible rfl) (by (conv => lhs; simp only [go_sem, ibin, ishift]) <;> with_reducible rfl) ?_
  refine CK_pure (new_spec c.toTabP lay0 ⟨by decide, by decide⟩ (by decide)) rfl ?_
  rintro v h' ⟨_, hh⟩
  obtain ⟨rfl, rfl⟩ := hh hg
  unfold Pl.h
  (with_reducible((first|apply WO2_finw|apply WO2_fina);(conv=>lhs;simp only[go_sem, ibin, ishift])<;>rfl))
  (repeat' with_reducible first |apply qA|apply qB|apply qC|apply qD|apply qE|apply qF|(apply qG;decide)|apply qH|apply qI|apply qJ|apply qK|((first|apply qL|apply qM|apply qN|apply qO|((first|apply qP|apply qQ);decide +kernel));(conv=>lhs;simp only[go_sem, ibin, ishift])<;>rfl)|((first|apply qR|apply qS);(conv=>lhs;simp only[go_sem])<;>rfl;rfl)|((first|apply qT|apply qU);(conv=>lhs;simp only[go_sem])<;>rfl;rfl)|apply qV|apply qW|apply qX|apply qY|apply qZ)
  (with_reducible((first|apply pA|apply pB|apply pC|apply pD|apply pE|((first|apply pF|apply pG);decide +kernel));(conv=>lhs;simp only[go_sem, ibin, ishift])<;>rfl))
  refine CK_call [2, 3, 4] (put_spec c.toTabP (Pl.new lay0) (by decide) 5 0) (by decide) (by simp) rfl rfl (by first | rfl | (simp only [go_sem, Pl.h]; done) | (simp only [go_sem, Pl.h] <;> rfl)) ?_
  rintro v h' ⟨rfl, rfl⟩
  rw [p1]
  unfold Pl.h
  (with_reducible((first|apply WO2_finw|apply WO2_fina);(conv=>lhs;simp only[go_sem, ibin, ishift])<;>rfl))
  (repeat' with_reducible first |apply qA|apply qB|apply qC|apply qD|apply qE|apply qF|(apply qG;decide)|apply qH|apply qI|apply qJ|apply qK|((first|apply qL|apply qM|apply qN|apply qO|((first|apply qP|apply qQ);decide +kernel));(conv=>lhs;simp only[go_sem, ibin, ishift])<;>rfl)|((first|apply qR|apply qS);(conv=>lhs;simp only[go_sem])<;>rfl;rfl)|((first|apply qT|apply qU);(conv=>lhs;simp only[go_sem])<;>rfl;rfl)|apply qV|apply qW|apply qX|apply qY|apply qZ)
  (with_reducible((first|apply pA|apply pB|apply pC|apply pD|apply pE|((first|apply pF|apply pG);decide +kernel));(conv=>lhs;simp only[go_sem, ibin, ishift])<;>rfl))
  refine CK_call [2, 3, 4] (hear_spec c.toTabP pa1 k1 ⟨1, 1, 9, 5, 0⟩ ⟨by decide, by decide, by decide, by decide, by decide⟩) (by decide) (by simp) rfl rfl (by first | rfl | (simp only [go_sem, Pl.h]; done) | (simp only [go_sem, Pl.h] <;> rfl)) ?_
  rintro v h' ⟨rfl, rfl⟩
  rw [p2]
  unfold Pl.h Te.v
  (with_reducible((first|apply WO2_finw|apply WO2_fina);(conv=>lhs;simp only[go_sem, ibin, ishift])<;>rfl))
  (repeat' with_reducible first |apply qA|apply qB|apply qC|apply qD|apply qE|apply qF|(apply qG;decide)|apply qH|apply qI|apply qJ|apply qK|((first|apply qL|apply qM|apply qN|apply qO|((first|apply qP|apply qQ);decide +kernel));(conv=>lhs;simp only[go_sem, ibin, ishift])<;>rfl)|((first|apply qR|apply qS);(conv=>lhs;simp only[go_sem])<;>rfl;rfl)|((first|apply qT|apply qU);(conv=>lhs;simp only[go_sem])<;>rfl;rfl)|apply qV|apply qW|apply qX|apply qY|apply qZ)
  (with_reducible((first|apply pA|apply pB|apply pC|apply pD|apply pE|((first|apply pF|apply pG);decide +kernel));(conv=>lhs;simp only[go_sem, ibin, ishift])<;>rfl))
  refine CK_call [2, 3, 4] (hear_spec c.toTabP pa2 k2 ⟨1, 1, 8, 5, 0⟩ ⟨by decide, by decide, by decide, by decide, by decide⟩) (by decide) (by simp) rfl rfl (by first | rfl | (simp only [go_sem, Pl.h]; done) | (simp only [go_sem, Pl.h] <;> rfl)) ?_
  rintro v h' ⟨rfl, rfl⟩
  rw [p3]
  unfold Pl.h Te.v Te.nil
  (with_reducible((first|apply WO2_finw|apply WO2_fina);(conv=>lhs;simp only[go_sem, ibin, ishift])<;>rfl))
  (repeat' with_reducible first |apply qA|apply qB|apply qC|apply qD|apply qE|apply qF|(apply qG;decide)|apply qH|apply qI|apply qJ|apply qK|((first|apply qL|apply qM|apply qN|apply qO|((first|apply qP|apply qQ);decide +kernel));(conv=>lhs;simp only[go_sem, ibin, ishift])<;>rfl)|((first|apply qR|apply qS);(conv=>lhs;simp only[go_sem])<;>rfl;rfl)|((first|apply qT|apply qU);(conv=>lhs;simp only[go_sem])<;>rfl;rfl)|apply qV|apply qW|apply qX|apply qY|apply qZ)
  (with_reducible((first|apply pA|apply pB|apply pC|apply pD|apply pE|((first|apply pF|apply pG);decide +kernel));(conv=>lhs;simp only[go_sem, ibin, ishift])<;>rfl))
  refine CK_call [2, 3, 4] (hear_spec c.toTabP pa2 k2 ⟨1, 1, 10, 5, 0⟩ ⟨by decide, by decide, by decide, by decide, by decide⟩) (by decide) (by simp) rfl rfl (by first | rfl | (simp only [go_sem, Pl.h]; done) | (simp only [go_sem, Pl.h] <;> rfl)) ?_
  rintro v h' ⟨rfl, rfl⟩
  rw [p4]
  unfold Pl.h Te.v
  (with_reducible((first|apply WO2_finw|apply WO2_fina);(conv=>lhs;simp only[go_sem, ibin, ishift])<;>rfl))
  (repeat' with_reducible first |apply qA|apply qB|apply qC|apply qD|apply qE|apply qF|(apply qG;decide)|apply qH|apply qI|apply qJ|apply qK|((first|apply qL|apply qM|apply qN|apply qO|((first|apply qP|apply qQ);decide +kernel));(conv=>lhs;simp only[go_sem, ibin, ishift])<;>rfl)|((first|apply qR|apply qS);(conv=>lhs;simp only[go_sem])<;>rfl;rfl)|((first|apply qT|apply qU);(conv=>lhs;simp only[go_sem])<;>rfl;rfl)|apply qV|apply qW|apply qX|apply qY|apply qZ)
  (with_reducible((first|apply pA|apply pB|apply pC|apply pD|apply pE|((first|apply pF|apply pG);decide +kernel));(conv=>lhs;simp only[go_sem, ibin, ishift])<;>rfl))
  refine CK_call [2, 3, 4] (where_spec c.toTabP pa2 (by decide) 5) (by decide) (by simp) rfl rfl (by first | rfl | (simp only [go_sem, Pl.h]; done) | (simp only [go_sem, Pl.h] <;> rfl)) ?_
  rintro v h' ⟨rfl, rfl⟩
  rw [show pa2.loc 5 = 1 from rfl]
  unfold Pl.h
  (with_reducible((first|apply pA|apply pB|apply pC|apply pD|apply pE|((first|apply pF|apply pG);decide +kernel));(conv=>lhs;simp only[go_sem, ibin, ishift])<;>rfl))
  refine CK_call [2, 3, 4] (moves_spec c.toTabP pa2) (by decide) (by simp) rfl rfl (by first | rfl | (simp only [go_sem, Pl.h]; done) | (simp only [go_sem, Pl.h] <;> rfl)) ?_
  rintro v h' ⟨rfl, rfl⟩
  rw [show pa2.mv = 1 from rfl]
  unfold Pl.h
  (with_reducible((first|apply WO2_finw|apply WO2_fina);(conv=>lhs;simp only[go_sem, ibin, ishift])<;>rfl))
  (repeat' with_reducible first |apply qA|apply qB|apply qC|apply qD|apply qE|apply qF|(apply qG;decide)|apply qH|apply qI|apply qJ|apply qK|((first|apply qL|apply qM|apply qN|apply qO|((first|apply qP|apply qQ);decide +kernel));(conv=>lhs;simp only[go_sem, ibin, ishift])<;>rfl)|((first|apply qR|apply qS);(conv=>lhs;simp only[go_sem])<;>rfl;rfl)|((first|apply qT|apply qU);(conv=>lhs;simp only[go_sem])<;>rfl;rfl)|apply qV|apply qW|apply qX|apply qY|apply qZ)
  refine ⟨by first | exact .inr rfl | exact .inl rfl, _, _, (by (conv => lhs; simp only [go_sem, ibin, ishift]) <;> with_reducible rfl), (by (conv => lhs; simp only [go_sem, ibin, ishift]) <;> with_reducible rfl), ?_⟩
  refine ⟨[], by decide, rfl, ?_⟩
  exact ⟨rfl, rfl⟩
/-- a call of a script -/
structure Op20 where
  k : Int
  a : Int
  b : Int
  t : Te
def cO (o : Op20) : List PV := [.i .i64 o.k, .i .i64 o.a, .i .i64 o.b, .i .u8 o.t.k, .i .u16 o.t.dev, .i .u16 o.t.seq, .i .u16 o.t.a, .i .u16 o.t.b]
theorem i16_wrap (x : Int) : IntKind.i16.wrap x = (x + 32768) % 65536 - 32768 := by
  simp only [IntKind.wrap, IntKind.signed, IntKind.bits, Bool.true_and]
  split
  · rename_i h
    have := of_decide_eq_true h
    omega
  · rename_i h
    have := of_decide_eq_false (Bool.not_eq_true _ ▸ h)
    omega
theorem dist_eq (a b : Int) : dist a b = (b - a + 32768) % 65536 - 32768 := by
  rw [dist, wi _ (by rw [i16_wrap]; omega) (by rw [i16_wrap]; omega), i16_wrap, IntKind.wrap_u16]
  omega
/-! what stays -/
theorem good_sz {l : Lay} (h : l.good = true) : 1 ≤ l.ns.length ∧ l.ns.length ≤ 40 ∧ l.es.length ≤ 120 := by
  simp only [Lay.good, Bool.and_eq_true, decide_eq_true_eq] at h
  exact ⟨h.1.1.1.1, h.1.1.1.2, h.1.1.2⟩
theorem good_edges {l : Lay} (h : l.good = true) : ∀ e ∈ l.es, 0 ≤ e.a ∧ e.a < l.ns.length ∧ 0 ≤ e.b ∧ e.b < l.ns.length ∧ e.a ≠ e.b := by
  intro e he
  simp only [Lay.good, Bool.and_eq_true] at h
  obtain ⟨i, hi⟩ := List.mem_iff_getElem?.1 he
  have := okE_iff.1 (allOk_iff.1 h.2 i e hi)
  exact ⟨this.1.1, this.1.2, this.2.1.1, this.2.1.2, this.2.2.1⟩
theorem Pl.new_ok {l : Lay} (h : l.good = true) : (Pl.new l).Ok := by
  have hz := good_sz h
  refine ⟨by simp [Pl.new]; omega, by simp [Pl.new], by simp [Pl.new]; omega, fun e he => ?_⟩
  have := good_edges h e he
  simpa [Pl.new] using this
theorem Pl.put_es (p : Pl) (t n : Int) : (p.put t n).1.es = p.es ∧ (p.put t n).1.ds = p.ds ∧ (p.put t n).1.mv = p.mv ∧ (p.put t n).1.at_.length = p.at_.length := by
  unfold Pl.put
  repeat' split
  all_goals simp
theorem Pl.Ok.of {p q : Pl} (h : p.Ok) (h1 : q.es = p.es) (h2 : q.ds.length = p.ds.length) (h3 : q.at_.length = p.at_.length) : q.Ok :=
  ⟨by rw [h3]; exact h.al, by rw [h2, h1]; exact h.dl, by rw [h1]; exact h.el, by rw [h1, h3]; exact h.ed⟩
theorem Pl.put_ok {p : Pl} (h : p.Ok) (t n : Int) : (p.put t n).1.Ok := by
  obtain ⟨h1, h2, _, h3⟩ := p.put_es t n
  exact h.of h1 (by rw [h2]) h3
theorem Pl.set_es (p : Pl) (d : Int) (b : Bool) (k : Int) : (p.set d b k).1.es = p.es ∧ (p.set d b k).1.at_ = p.at_ ∧ (p.set d b k).1.mv = p.mv ∧ (p.set d b k).1.ds.length = p.ds.length := by
  unfold Pl.set
  split <;> simp
theorem Pl.set_ok {p : Pl} (h : p.Ok) (d : Int) (b : Bool) (k : Int) : (p.set d b k).1.Ok := by
  obtain ⟨h1, h2, _, h3⟩ := p.set_es d b k
  exact h.of h1 h3 (by rw [h2])
theorem Pl.move_es (p : Pl) (j : Nat) (e : Ed) (t : Te) : (p.move j e t).1.es = p.es ∧ (p.move j e t).1.at_.length = p.at_.length ∧ (p.move j e t).1.ds.length = p.ds.length := by
  unfold Pl.move
  repeat' split
  all_goals simp
theorem Pl.hear_es (p : Pl) (t : Te) : (p.hear t).1.es = p.es ∧ (p.hear t).1.at_.length = p.at_.length ∧ (p.hear t).1.ds.length = p.ds.length := by
  unfold Pl.hear
  repeat' split
  all_goals first | exact Pl.move_es .. | exact ⟨rfl, rfl, rfl⟩
theorem Pl.hear_ok {p : Pl} (h : p.Ok) (t : Te) : (p.hear t).1.Ok := by
  obtain ⟨h1, h2, h3⟩ := p.hear_es t
  exact h.of h1 h3 h2
end Go.Proofs.Ytpblhjaghkkdhaa.Ab
