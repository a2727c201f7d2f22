/- Chapter 19: TapePlays. -/
import Derived.Test.YtfmkomjflhifnaaY19q
namespace Go.Proofs.Ytfmkomjflhifnaa.Ab
open Go
set_option linter.unusedVariables false
set_option linter.unusedSimpArgs false
variable {T : AT}
structure Op19 where
  k : Int
  n : Int
  ns : List Nt
def cOp (o : Op19) : List PV := [.i .i64 o.k, .i .i64 o.n, .fz 4 (o.ns.map cN)]
theorem readR_len {b : List UInt8} {g : List Nt} (h : ReadR b g) : (encsB g).length ≤ b.length := h.2.1.length_le
theorem ab_len {p : Tp} {r : Rt} (h : Sim p r) : p.a.length ≤ 65536 ∧ p.b.length ≤ 65536 := by
  have h1 := h.l1
  have h2 := h.l2
  unfold Tp.now at h1
  unfold Tp.oth at h2
  cases hc : p.c with
  | false => rw [hc] at h1 h2; exact ⟨h1, h2⟩
  | true => rw [hc] at h1 h2; exact ⟨h2, h1⟩
set_option maxHeartbeats 4000000 in
theorem tapePlays_law (c : TabL19 T) (hT : T i_stillagelaw19_TapePlays = some (.fn c_stillagelaw19_TapePlays)) (s : List Op19) : Ret2 T 0 i_stillagelaw19_TapePlays [.fz 3 (s.map cOp)] [] (fun v h' => v = .b true) := by
  refine Ret2_fnv hT rfl rfl ?_
  (repeat' with_reducible first |apply qA|apply qB|apply qC|apply qD|apply qE|apply qF|(apply qG;decide)|apply qH|apply qI|apply qJ|apply qK|((first|apply qL|apply qM|apply qN|apply qO|((first|apply qP|apply qQ);decide +kernel));(conv=>lhs;simp only[go_sem, ibin, ishift])<;>rfl)|((first|apply qR|apply qS);(conv=>lhs;simp only[go_sem])<;>rfl;rfl)|((first|apply qT|apply qU);(conv=>lhs;simp only[go_sem])<;>rfl;rfl)|apply qV|apply qW|apply qX|apply qY|apply qZ)
  (with_reducible((first|apply pA|apply pB|apply pC|apply pD|apply pE|((first|apply pF|apply pG);decide +kernel));(conv=>lhs;simp only[go_sem, ibin, ishift])<;>rfl))
  refine CK_pure (new_spec c.toTabT) rfl ?_
  rintro v h' ⟨rfl, rfl⟩
  unfold Tp.h Tp.o
  (with_reducible((first|apply pA|apply pB|apply pC|apply pD|apply pE|((first|apply pF|apply pG);decide +kernel));(conv=>lhs;simp only[go_sem, ibin, ishift])<;>rfl))
  refine CK_pure (rnew_spec c.toTabR19) rfl ?_
  rintro v h' ⟨rfl, rfl⟩
  have hS0 := Sim.new
  generalize Tp.new = p0 at hS0 ⊢
  generalize Rt.new = r0 at hS0 ⊢
  unfold Rt.v
  (with_reducible((first|apply WO2_finw|apply WO2_fina);(conv=>lhs;simp only[go_sem, ibin, ishift])<;>rfl))
  (repeat' with_reducible first |apply qA|apply qB|apply qC|apply qD|apply qE|apply qF|(apply qG;decide)|apply qH|apply qI|apply qJ|apply qK|((first|apply qL|apply qM|apply qN|apply qO|((first|apply qP|apply qQ);decide +kernel));(conv=>lhs;simp only[go_sem, ibin, ishift])<;>rfl)|((first|apply qR|apply qS);(conv=>lhs;simp only[go_sem])<;>rfl;rfl)|((first|apply qT|apply qU);(conv=>lhs;simp only[go_sem])<;>rfl;rfl)|apply qV|apply qW|apply qX|apply qY|apply qZ)
  (with_reducible((first|apply pA|apply pB|apply pC|apply pD|apply pE|((first|apply pF|apply pG);decide +kernel));(conv=>lhs;simp only[go_sem, ibin, ishift])<;>rfl))
  refine CK_pure (always_spec c.awake) rfl ?_
  rintro v h' ⟨rfl, rfl⟩
  (with_reducible((first|apply WO2_finw|apply WO2_fina);(conv=>lhs;simp only[go_sem, ibin, ishift])<;>rfl))
  (repeat' with_reducible first |apply qA|apply qB|apply qC|apply qD|apply qE|apply qF|(apply qG;decide)|apply qH|apply qI|apply qJ|apply qK|((first|apply qL|apply qM|apply qN|apply qO|((first|apply qP|apply qQ);decide +kernel));(conv=>lhs;simp only[go_sem, ibin, ishift])<;>rfl)|((first|apply qR|apply qS);(conv=>lhs;simp only[go_sem])<;>rfl;rfl)|((first|apply qT|apply qU);(conv=>lhs;simp only[go_sem])<;>rfl;rfl)|apply qV|apply qW|apply qX|apply qY|apply qZ)
  refine W2_loopu (fun mm u g => ∃ (i : Nat) (p : Tp) (r : Rt), i + mm = 80 ∧ Sim p r ∧ u = [(5, .i .i64 i)] ∧ g = [(0, .obj [.sl 1 1 0 p.a.length none, .sl 1 2 0 p.b.length none, .i .i64 (ci p.c), .b p.armed, .i .i64 p.bud, .b p.dead]), (1, .arr 1 (p.a.map c8)), (2, .arr 1 (p.b.map c8)), (3, .obj [.s r.now, .s r.oth, .i .i64 r.bud, .b r.dead])]) 80 ⟨0, p0, r0, by omega, hS0, rfl, rfl⟩ rfl rfl ?_
  rintro mm u g ⟨i, p, r, hi, hS, rfl, rfl⟩
  intro e1 h1 he1 hh1; simp only [egd, supE, hgd, supH, Nat.reduceEqDiff, Nat.reduceAdd, if_true, if_false, reduceIte] at he1 hh1; subst he1; subst hh1
  by_cases hil : i < s.length ∧ i < 80
  rotate_left
  · have hdec : (decide (i < s.length) && decide ((i : Int) < 80)) = false := by
      by_cases h : i < s.length
      · rw [decide_eq_false (show ¬((i : Int) < 80) by omega)]; simp
      · rw [decide_eq_false h]; rfl
    ((repeat' with_reducible first |apply qA|apply qB|apply qC|apply qD|apply qE|apply qF|(apply qG;decide)|apply qH|apply qI|apply qJ|apply qK|apply qX|((first|apply qR|apply qS);(conv=>lhs;simp only[go_sem])<;>rfl;rfl)|((first|apply qT|apply qU);(conv=>lhs;simp only[go_sem])<;>rfl;rfl)|apply qZ|apply qY|apply qW);with_reducible((first|apply qL|apply qM|apply qN|apply qO|((first|apply qP|apply qQ);decide +kernel));(conv=>lhs;simp only[go_sem, ibin, ishift])<;>rfl))
    rw [hdec]
    (repeat' with_reducible first |apply qA|apply qB|apply qC|apply qD|apply qE|apply qF|(apply qG;decide)|apply qH|apply qI|apply qJ|apply qK|((first|apply qL|apply qM|apply qN|apply qO|((first|apply qP|apply qQ);decide +kernel));(conv=>lhs;simp only[go_sem, ibin, ishift])<;>rfl)|((first|apply qR|apply qS);(conv=>lhs;simp only[go_sem])<;>rfl;rfl)|((first|apply qT|apply qU);(conv=>lhs;simp only[go_sem])<;>rfl;rfl)|apply qV|apply qW|apply qX|apply qY|apply qZ)
    refine ⟨by first | exact .inr rfl | exact .inl rfl, _, _, (by (conv => lhs; simp only [go_sem, ibin, ishift]) <;> with_reducible rfl), (by (conv => lhs; simp only [go_sem, ibin, ishift]) <;> with_reducible rfl), ?_⟩
    refine ⟨[], by decide, rfl, ?_⟩
    rfl
  obtain ⟨hil, hi2⟩ := hil
  have hgx := List.getElem?_eq_getElem hil
  generalize s[i] = x at hgx
  have h0 : (0 : Int) ≤ (i : Int) := by omega
  have h1 : (i : Int) < (s.length : Int) := by omega
  have h2 : (i : Int) < 80 := by omega
  have d1 : decide ((i : Int) < (s.length : Int)) = true := decide_eq_true h1
  have d2 : decide ((i : Int) < 80) = true := decide_eq_true h2
  have d3 : decide (i < s.length) = true := decide_eq_true hil
  have wi1 := wS (show i < 9223372036854775807 by omega)
  by_cases hlong : x.ns.length > 60
  · have z1 : decide ((x.ns.length : Int) > 60) = true := decide_eq_true (by omega)
    (repeat' with_reducible first |apply qA|apply qB|apply qC|apply qD|apply qE|apply qF|(apply qG;decide)|apply qH|apply qI|apply qJ|apply qK|((first|apply qL|apply qM|apply qN|apply qO|((first|apply qP|apply qQ);decide +kernel));(conv=>lhs;simp only[go_sem, ibin, ishift, d1, d2, d3, h1, h2, h0, hil, hgx, cOp, z1, wi1])<;>rfl)|((first|apply qR|apply qS);(conv=>lhs;simp only[go_sem])<;>rfl;rfl)|((first|apply qT|apply qU);(conv=>lhs;simp only[go_sem])<;>rfl;rfl)|apply qV|apply qW|apply qX|apply qY|apply qZ)
    refine ⟨[0, 1, 2, 3], by decide, rfl, ?_⟩
    exact ⟨80 - (i + 1), _, _, by omega, ⟨i + 1, p, r, by omega, hS, rfl, rfl⟩, rfl, (by first | rfl | ((conv => lhs; simp only [go_sem, ibin, ishift]) <;> rfl))⟩
  have z1 : decide ((x.ns.length : Int) > 60) = false := decide_eq_false (by omega)
  have hroom : (0 + x.ns.length) * 32 ≤ room := by simp only [room]; omega
  have hroom2 : x.ns.length * 32 ≤ room := by simp only [room]; omega
  (repeat' with_reducible first |apply qA|apply qB|apply qC|apply qD|apply qE|apply qF|(apply qG;decide)|apply qH|apply qI|apply qJ|apply qK|((first|apply qL|apply qM|apply qN|apply qO|((first|apply qP|apply qQ);decide +kernel));(conv=>lhs;simp only[go_sem, ibin, ishift, d1, d2, d3, h1, h2, h0, hil, hgx, cOp, z1, hroom, hroom2, Nat.le_refl])<;>rfl)|((first|apply qR|apply qS);(conv=>lhs;simp only[go_sem])<;>rfl;rfl)|((first|apply qT|apply qU);(conv=>lhs;simp only[go_sem])<;>rfl;rfl)|apply qV|apply qW|apply qX|apply qY|apply qZ)
  refine W2.wview [0, 1, 2, 3, 4, 6] (by decide) rfl (by (conv => lhs; simp only [go_sem, ibin, ishift]) <;> with_reducible rfl) (by (conv => lhs; simp only [go_sem, ibin, ishift]) <;> with_reducible rfl) ?_
  obtain ⟨g, hg⟩ := readR_ex p.now
  have hg2 : ReadR r.now g := hS.now ▸ hg
  have hl1 := hS.l1
  have hl2 := hS.l2
  have hll := readR_len hg2
  have hnl : p.now.length = r.now.length := by rw [hS.now]
  have hrv : r.v = .agg [.s r.now, .s r.oth, .i .i64 r.bud, .b r.dead] := rfl
  refine W2.post (Q' := fun t e h => t = .nrm ∧ ∃ e1 h1, Wk 0 e h e1 h1 ∧ ∃ (p2 : Tp) (r2 : Rt) (z : Int), Sim p2 r2 ∧ e1 = [(0, .fz 3 (s.map cOp)), (3, .ptr 0 0), (4, .ptr 3 0), (5, .i .i64 i), (6, .ptr 4 0), (7, .sl 4 5 0 x.ns.length none), (8, .i .i64 z), (9, .i .i64 z)] ∧
    h1 = [some (.obj [.sl 1 1 0 p2.a.length none, .sl 1 2 0 p2.b.length none, .i .i64 (ci p2.c), .b p2.armed, .i .i64 p2.bud, .b p2.dead]), some (.arr 1 (p2.a.map c8)), some (.arr 1 (p2.b.map c8)), some (.obj [.s r2.now, .s r2.oth, .i .i64 r2.bud, .b r2.dead]), some (.obj [.i .i64 x.k, .i .i64 x.n, .fz 4 (x.ns.map cN)]), some (.arr 4 (x.ns.map cN))]) ?_ ?_
  · (((first | with_reducible apply W2_sc | with_reducible apply W2_cond); ((conv => lhs; simp only [go_sem]) <;> with_reducible rfl)) <;> intro hx <;> (try rw [hx]) <;> simp only [Bool.or_eq_true, Bool.and_eq_true, decide_eq_true_eq, Bool.or_eq_false_iff, Bool.and_eq_false_iff, decide_eq_false_iff_not, Bool.not_eq_true', Bool.not_eq_false', bne_iff_ne, beq_iff_eq, not_or, not_and, Decidable.not_not, ne_eq, gt_iff_lt, ge_iff_le, Int.not_lt, Int.not_le] at hx)
    · have hq := hS.arm x.n
      (repeat' with_reducible first |apply qA|apply qB|apply qC|apply qD|apply qE|apply qF|(apply qG;decide)|apply qH|apply qI|apply qJ|apply qK|((first|apply qL|apply qM|apply qN|apply qO|((first|apply qP|apply qQ);decide +kernel));(conv=>lhs;simp only[go_sem, ibin, ishift])<;>rfl)|((first|apply qR|apply qS);(conv=>lhs;simp only[go_sem])<;>rfl;rfl)|((first|apply qT|apply qU);(conv=>lhs;simp only[go_sem])<;>rfl;rfl)|apply qV|apply qW|apply qX|apply qY|apply qZ)
      (with_reducible((first|apply pA|apply pB|apply pC|apply pD|apply pE|((first|apply pF|apply pG);decide +kernel));(conv=>lhs;simp only[go_sem, ibin, ishift])<;>rfl))
      refine CK_call [0, 1, 2] (arm_spec c.toTabT p x.n) (by decide) (by simp) rfl rfl (by first | rfl | (simp only [go_sem, Tp.h, Tp.o, ci]; done) | (simp only [go_sem, Tp.h, Tp.o, ci] <;> rfl)) ?_
      rintro v h' ⟨rfl, rfl⟩
      generalize p.arm x.n = q at hq
      obtain ⟨p2, e⟩ := q
      simp only at hq
      unfold Tp.h Tp.o
      (with_reducible((first|apply WO2_finw|apply WO2_fina);(conv=>lhs;simp only[go_sem, ibin, ishift])<;>rfl))
      (repeat' with_reducible first |apply qA|apply qB|apply qC|apply qD|apply qE|apply qF|(apply qG;decide)|apply qH|apply qI|apply qJ|apply qK|((first|apply qL|apply qM|apply qN|apply qO|((first|apply qP|apply qQ);decide +kernel));(conv=>lhs;simp only[go_sem, ibin, ishift])<;>rfl)|((first|apply qR|apply qS);(conv=>lhs;simp only[go_sem])<;>rfl;rfl)|((first|apply qT|apply qU);(conv=>lhs;simp only[go_sem])<;>rfl;rfl)|apply qV|apply qW|apply qX|apply qY|apply qZ)
      (with_reducible((first|apply pA|apply pB|apply pC|apply pD|apply pE|((first|apply pF|apply pG);decide +kernel));(conv=>lhs;simp only[go_sem, ibin, ishift])<;>rfl))
      refine CK_pure (rarm_spec c.toTabR19 r x.n) rfl ?_
      rintro v h' ⟨rfl, rfl⟩
      generalize r.arm x.n = q2 at hq
      obtain ⟨r2, e2⟩ := q2
      simp only at hq ⊢
      obtain ⟨rfl, hS2⟩ := hq
      unfold Rt.v
      (with_reducible((first|apply pA|apply pB|apply pC|apply pD|apply pE|((first|apply pF|apply pG);decide +kernel));(conv=>lhs;simp only[go_sem, ibin, ishift])<;>rfl))
      exact ⟨trivial, _, _, .refl, p2, r2, e, hS2, rfl, (by first | rfl | ((conv => lhs; simp only [go_sem, ibin, ishift]) <;> rfl))⟩
    (repeat' with_reducible first |apply qA|apply qB|apply qC|apply qD|apply qE|apply qF|(apply qG;decide)|apply qH|apply qI|apply qJ|apply qK|((first|apply qL|apply qM|apply qN|apply qO|((first|apply qP|apply qQ);decide +kernel));(conv=>lhs;simp only[go_sem, ibin, ishift])<;>rfl)|((first|apply qR|apply qS);(conv=>lhs;simp only[go_sem])<;>rfl;rfl)|((first|apply qT|apply qU);(conv=>lhs;simp only[go_sem])<;>rfl;rfl)|apply qV|apply qW|apply qX|apply qY|apply qZ)
    (((first | with_reducible apply W2_sc | with_reducible apply W2_cond); ((conv => lhs; simp only [go_sem]) <;> with_reducible rfl)) <;> intro hx <;> (try rw [hx]) <;> simp only [Bool.or_eq_true, Bool.and_eq_true, decide_eq_true_eq, Bool.or_eq_false_iff, Bool.and_eq_false_iff, decide_eq_false_iff_not, Bool.not_eq_true', Bool.not_eq_false', bne_iff_ne, beq_iff_eq, not_or, not_and, Decidable.not_not, ne_eq, gt_iff_lt, ge_iff_le, Int.not_lt, Int.not_le] at hx)
    · have hq := hS.append (encsB g).length x.ns
      (repeat' with_reducible first |apply qA|apply qB|apply qC|apply qD|apply qE|apply qF|(apply qG;decide)|apply qH|apply qI|apply qJ|apply qK|((first|apply qL|apply qM|apply qN|apply qO|((first|apply qP|apply qQ);decide +kernel));(conv=>lhs;simp only[go_sem, ibin, ishift])<;>rfl)|((first|apply qR|apply qS);(conv=>lhs;simp only[go_sem])<;>rfl;rfl)|((first|apply qT|apply qU);(conv=>lhs;simp only[go_sem])<;>rfl;rfl)|apply qV|apply qW|apply qX|apply qY|apply qZ)
      (with_reducible((first|apply pA|apply pB|apply pC|apply pD|apply pE|((first|apply pF|apply pG);decide +kernel));(conv=>lhs;simp only[go_sem, ibin, ishift])<;>rfl))
      refine CK_call [0, 5, 1, 2] (appendL_spec c.toTabT p g hg (by omega) x.ns (by omega)) (by decide) (by simp) rfl rfl (by first | rfl | (simp only [go_sem, Tp.hn, Tp.o, ci, cN]; done) | (simp only [go_sem, Tp.hn, Tp.o, ci, cN] <;> rfl)) ?_
      rintro v h' ⟨rfl, rfl⟩
      generalize p.append (encsB g).length x.ns = q at hq
      obtain ⟨p2, e⟩ := q
      simp only at hq
      unfold Tp.hn Tp.o
      (with_reducible((first|apply WO2_finw|apply WO2_fina);(conv=>lhs;simp only[go_sem, ibin, ishift])<;>rfl))
      (repeat' with_reducible first |apply qA|apply qB|apply qC|apply qD|apply qE|apply qF|(apply qG;decide)|apply qH|apply qI|apply qJ|apply qK|((first|apply qL|apply qM|apply qN|apply qO|((first|apply qP|apply qQ);decide +kernel));(conv=>lhs;simp only[go_sem, ibin, ishift])<;>rfl)|((first|apply qR|apply qS);(conv=>lhs;simp only[go_sem])<;>rfl;rfl)|((first|apply qT|apply qU);(conv=>lhs;simp only[go_sem])<;>rfl;rfl)|apply qV|apply qW|apply qX|apply qY|apply qZ)
      (with_reducible((first|apply pA|apply pB|apply pC|apply pD|apply pE|((first|apply pF|apply pG);decide +kernel));(conv=>lhs;simp only[go_sem, ibin, ishift])<;>rfl))
      refine CK_pure (rappend_spec c.toTabR19 r hS.bd g hg2 (by omega) x.ns (by omega)) rfl ?_
      rintro v h' ⟨rfl, rfl⟩
      generalize r.append (encsB g).length x.ns = q2 at hq
      obtain ⟨r2, e2⟩ := q2
      simp only at hq ⊢
      obtain ⟨rfl, hS2⟩ := hq
      unfold Rt.v
      (with_reducible((first|apply pA|apply pB|apply pC|apply pD|apply pE|((first|apply pF|apply pG);decide +kernel));(conv=>lhs;simp only[go_sem, ibin, ishift])<;>rfl))
      exact ⟨trivial, _, _, .refl, p2, r2, e, hS2, rfl, (by first | rfl | ((conv => lhs; simp only [go_sem, ibin, ishift]) <;> rfl))⟩
    (repeat' with_reducible first |apply qA|apply qB|apply qC|apply qD|apply qE|apply qF|(apply qG;decide)|apply qH|apply qI|apply qJ|apply qK|((first|apply qL|apply qM|apply qN|apply qO|((first|apply qP|apply qQ);decide +kernel));(conv=>lhs;simp only[go_sem, ibin, ishift])<;>rfl)|((first|apply qR|apply qS);(conv=>lhs;simp only[go_sem])<;>rfl;rfl)|((first|apply qT|apply qU);(conv=>lhs;simp only[go_sem])<;>rfl;rfl)|apply qV|apply qW|apply qX|apply qY|apply qZ)
    (((first | with_reducible apply W2_sc | with_reducible apply W2_cond); ((conv => lhs; simp only [go_sem]) <;> with_reducible rfl)) <;> intro hx <;> (try rw [hx]) <;> simp only [Bool.or_eq_true, Bool.and_eq_true, decide_eq_true_eq, Bool.or_eq_false_iff, Bool.and_eq_false_iff, decide_eq_false_iff_not, Bool.not_eq_true', Bool.not_eq_false', bne_iff_ne, beq_iff_eq, not_or, not_and, Decidable.not_not, ne_eq, gt_iff_lt, ge_iff_le, Int.not_lt, Int.not_le] at hx)
    · have hq := hS.compact x.ns
      (repeat' with_reducible first |apply qA|apply qB|apply qC|apply qD|apply qE|apply qF|(apply qG;decide)|apply qH|apply qI|apply qJ|apply qK|((first|apply qL|apply qM|apply qN|apply qO|((first|apply qP|apply qQ);decide +kernel));(conv=>lhs;simp only[go_sem, ibin, ishift])<;>rfl)|((first|apply qR|apply qS);(conv=>lhs;simp only[go_sem])<;>rfl;rfl)|((first|apply qT|apply qU);(conv=>lhs;simp only[go_sem])<;>rfl;rfl)|apply qV|apply qW|apply qX|apply qY|apply qZ)
      (with_reducible((first|apply pA|apply pB|apply pC|apply pD|apply pE|((first|apply pF|apply pG);decide +kernel));(conv=>lhs;simp only[go_sem, ibin, ishift])<;>rfl))
      refine CK_call [0, 5, 1, 2] (compactL_spec c.toTabT p (by have := hS.l2; unfold Tp.oth at this; omega) x.ns (by omega)) (by decide) (by simp) rfl rfl (by first | rfl | (simp only [go_sem, Tp.hn, Tp.o, ci, cN]; done) | (simp only [go_sem, Tp.hn, Tp.o, ci, cN] <;> rfl)) ?_
      rintro v h' ⟨rfl, rfl⟩
      generalize p.compact x.ns = q at hq
      obtain ⟨p2, e⟩ := q
      simp only at hq
      unfold Tp.hn Tp.o
      (with_reducible((first|apply WO2_finw|apply WO2_fina);(conv=>lhs;simp only[go_sem, ibin, ishift])<;>rfl))
      (repeat' with_reducible first |apply qA|apply qB|apply qC|apply qD|apply qE|apply qF|(apply qG;decide)|apply qH|apply qI|apply qJ|apply qK|((first|apply qL|apply qM|apply qN|apply qO|((first|apply qP|apply qQ);decide +kernel));(conv=>lhs;simp only[go_sem, ibin, ishift])<;>rfl)|((first|apply qR|apply qS);(conv=>lhs;simp only[go_sem])<;>rfl;rfl)|((first|apply qT|apply qU);(conv=>lhs;simp only[go_sem])<;>rfl;rfl)|apply qV|apply qW|apply qX|apply qY|apply qZ)
      (with_reducible((first|apply pA|apply pB|apply pC|apply pD|apply pE|((first|apply pF|apply pG);decide +kernel));(conv=>lhs;simp only[go_sem, ibin, ishift])<;>rfl))
      refine CK_pure (rcompact_spec c.toTabR19 r hS.bd x.ns (by omega)) rfl ?_
      rintro v h' ⟨rfl, rfl⟩
      generalize r.compact x.ns = q2 at hq
      obtain ⟨r2, e2⟩ := q2
      simp only at hq ⊢
      obtain ⟨rfl, hS2⟩ := hq
      unfold Rt.v
      (with_reducible((first|apply pA|apply pB|apply pC|apply pD|apply pE|((first|apply pF|apply pG);decide +kernel));(conv=>lhs;simp only[go_sem, ibin, ishift])<;>rfl))
      exact ⟨trivial, _, _, .refl, p2, r2, e, hS2, rfl, (by first | rfl | ((conv => lhs; simp only [go_sem, ibin, ishift]) <;> rfl))⟩
    (repeat' with_reducible first |apply qA|apply qB|apply qC|apply qD|apply qE|apply qF|(apply qG;decide)|apply qH|apply qI|apply qJ|apply qK|((first|apply qL|apply qM|apply qN|apply qO|((first|apply qP|apply qQ);decide +kernel));(conv=>lhs;simp only[go_sem, ibin, ishift])<;>rfl)|((first|apply qR|apply qS);(conv=>lhs;simp only[go_sem])<;>rfl;rfl)|((first|apply qT|apply qU);(conv=>lhs;simp only[go_sem])<;>rfl;rfl)|apply qV|apply qW|apply qX|apply qY|apply qZ)
    (((first | with_reducible apply W2_sc | with_reducible apply W2_cond); ((conv => lhs; simp only [go_sem]) <;> with_reducible rfl)) <;> intro hx <;> (try rw [hx]) <;> simp only [Bool.or_eq_true, Bool.and_eq_true, decide_eq_true_eq, Bool.or_eq_false_iff, Bool.and_eq_false_iff, decide_eq_false_iff_not, Bool.not_eq_true', Bool.not_eq_false', bne_iff_ne, beq_iff_eq, not_or, not_and, Decidable.not_not, ne_eq, gt_iff_lt, ge_iff_le, Int.not_lt, Int.not_le] at hx)
    · have hq := hS.repair (encsB g).length hll
      (repeat' with_reducible first |apply qA|apply qB|apply qC|apply qD|apply qE|apply qF|(apply qG;decide)|apply qH|apply qI|apply qJ|apply qK|((first|apply qL|apply qM|apply qN|apply qO|((first|apply qP|apply qQ);decide +kernel));(conv=>lhs;simp only[go_sem, ibin, ishift])<;>rfl)|((first|apply qR|apply qS);(conv=>lhs;simp only[go_sem])<;>rfl;rfl)|((first|apply qT|apply qU);(conv=>lhs;simp only[go_sem])<;>rfl;rfl)|apply qV|apply qW|apply qX|apply qY|apply qZ)
      (with_reducible((first|apply pA|apply pB|apply pC|apply pD|apply pE|((first|apply pF|apply pG);decide +kernel));(conv=>lhs;simp only[go_sem, ibin, ishift])<;>rfl))
      refine CK_call [0, 1, 2] (repair_spec c.toTabT p g hg (by omega)) (by decide) (by simp) rfl rfl (by first | rfl | (simp only [go_sem, Tp.h, Tp.o, ci]; done) | (simp only [go_sem, Tp.h, Tp.o, ci] <;> rfl)) ?_
      rintro v h' ⟨rfl, rfl⟩
      generalize p.repair (encsB g).length = q at hq
      obtain ⟨p2, w, e⟩ := q
      simp only at hq
      unfold Tp.h Tp.o
      (with_reducible((first|apply WO2_finw|apply WO2_fina);(conv=>lhs;simp only[go_sem, ibin, ishift])<;>rfl))
      (repeat' with_reducible first |apply qA|apply qB|apply qC|apply qD|apply qE|apply qF|(apply qG;decide)|apply qH|apply qI|apply qJ|apply qK|((first|apply qL|apply qM|apply qN|apply qO|((first|apply qP|apply qQ);decide +kernel));(conv=>lhs;simp only[go_sem, ibin, ishift])<;>rfl)|((first|apply qR|apply qS);(conv=>lhs;simp only[go_sem])<;>rfl;rfl)|((first|apply qT|apply qU);(conv=>lhs;simp only[go_sem])<;>rfl;rfl)|apply qV|apply qW|apply qX|apply qY|apply qZ)
      (with_reducible((first|apply pA|apply pB|apply pC|apply pD|apply pE|((first|apply pF|apply pG);decide +kernel));(conv=>lhs;simp only[go_sem, ibin, ishift])<;>rfl))
      refine CK_pure (rrepair_spec c.toTabR19 r hS.bd g hg2 (by omega)) rfl ?_
      rintro v h' ⟨rfl, rfl⟩
      generalize r.repair (encsB g).length = q2 at hq
      obtain ⟨r2, w2⟩ := q2
      simp only at hq ⊢
      obtain ⟨rfl, hS2⟩ := hq
      have zw : decide (w = w) = true := by simp
      unfold Rt.v
      (with_reducible((first|apply WO2_finw|apply WO2_fina);(conv=>lhs;simp only[go_sem, ibin, ishift])<;>rfl))
      (repeat' with_reducible first |apply qA|apply qB|apply qC|apply qD|apply qE|apply qF|(apply qG;decide)|apply qH|apply qI|apply qJ|apply qK|((first|apply qL|apply qM|apply qN|apply qO|((first|apply qP|apply qQ);decide +kernel));(conv=>lhs;simp only[go_sem, ibin, ishift, zw])<;>rfl)|((first|apply qR|apply qS);(conv=>lhs;simp only[go_sem])<;>rfl;rfl)|((first|apply qT|apply qU);(conv=>lhs;simp only[go_sem])<;>rfl;rfl)|apply qV|apply qW|apply qX|apply qY|apply qZ)
      exact ⟨rfl, _, _, .refl, p2, r2, e, hS2, rfl, (by first | rfl | ((conv => lhs; simp only [go_sem, ibin, ishift]) <;> rfl))⟩
    (repeat' with_reducible first |apply qA|apply qB|apply qC|apply qD|apply qE|apply qF|(apply qG;decide)|apply qH|apply qI|apply qJ|apply qK|((first|apply qL|apply qM|apply qN|apply qO|((first|apply qP|apply qQ);decide +kernel));(conv=>lhs;simp only[go_sem, ibin, ishift])<;>rfl)|((first|apply qR|apply qS);(conv=>lhs;simp only[go_sem])<;>rfl;rfl)|((first|apply qT|apply qU);(conv=>lhs;simp only[go_sem])<;>rfl;rfl)|apply qV|apply qW|apply qX|apply qY|apply qZ)
    (((first | with_reducible apply W2_sc | with_reducible apply W2_cond); ((conv => lhs; simp only [go_sem]) <;> with_reducible rfl)) <;> intro hx <;> (try rw [hx]) <;> simp only [Bool.or_eq_true, Bool.and_eq_true, decide_eq_true_eq, Bool.or_eq_false_iff, Bool.and_eq_false_iff, decide_eq_false_iff_not, Bool.not_eq_true', Bool.not_eq_false', bne_iff_ne, beq_iff_eq, not_or, not_and, Decidable.not_not, ne_eq, gt_iff_lt, ge_iff_le, Int.not_lt, Int.not_le] at hx)
    · have hq := hS.crash
      have hab := ab_len hS
      (repeat' with_reducible first |apply qA|apply qB|apply qC|apply qD|apply qE|apply qF|(apply qG;decide)|apply qH|apply qI|apply qJ|apply qK|((first|apply qL|apply qM|apply qN|apply qO|((first|apply qP|apply qQ);decide +kernel));(conv=>lhs;simp only[go_sem, ibin, ishift])<;>rfl)|((first|apply qR|apply qS);(conv=>lhs;simp only[go_sem])<;>rfl;rfl)|((first|apply qT|apply qU);(conv=>lhs;simp only[go_sem])<;>rfl;rfl)|apply qV|apply qW|apply qX|apply qY|apply qZ)
      (with_reducible((first|apply pA|apply pB|apply pC|apply pD|apply pE|((first|apply pF|apply pG);decide +kernel));(conv=>lhs;simp only[go_sem, ibin, ishift])<;>rfl))
      refine CK_call [0, 1, 2] (crash_spec c.toTabT p (by omega) (by omega)) (by decide) (by simp) rfl rfl (by first | rfl | (simp only [go_sem, Tp.h, Tp.o, ci]; done) | (simp only [go_sem, Tp.h, Tp.o, ci] <;> rfl)) ?_
      rintro v h' ⟨rfl, rfl⟩
      unfold Tp.h Tp.o
      (with_reducible((first|apply WO2_finw|apply WO2_fina);(conv=>lhs;simp only[go_sem, ibin, ishift])<;>rfl))
      (repeat' with_reducible first |apply qA|apply qB|apply qC|apply qD|apply qE|apply qF|(apply qG;decide)|apply qH|apply qI|apply qJ|apply qK|((first|apply qL|apply qM|apply qN|apply qO|((first|apply qP|apply qQ);decide +kernel));(conv=>lhs;simp only[go_sem, ibin, ishift])<;>rfl)|((first|apply qR|apply qS);(conv=>lhs;simp only[go_sem])<;>rfl;rfl)|((first|apply qT|apply qU);(conv=>lhs;simp only[go_sem])<;>rfl;rfl)|apply qV|apply qW|apply qX|apply qY|apply qZ)
      (with_reducible((first|apply pA|apply pB|apply pC|apply pD|apply pE|((first|apply pF|apply pG);decide +kernel));(conv=>lhs;simp only[go_sem, ibin, ishift])<;>rfl))
      refine CK_frz 9 rfl (by (conv => lhs; simp only [go_sem, ibin, ishift]) <;> with_reducible rfl) (by (conv => lhs; simp only [go_sem, ibin, ishift]) <;> with_reducible rfl) (by (conv => lhs; simp only [go_sem, ibin, ishift]) <;> with_reducible rfl) ?_
      refine CK_call [0, 1, 2] (append_spec c.toTabT p g hg (by omega) [⟨6, 9, 0, 0⟩] (by decide)) (by decide) (by simp) rfl rfl (by first | rfl | (simp only [go_sem, Tp.h, Tp.o, ci]; done) | (simp only [go_sem, Tp.h, Tp.o, ci] <;> rfl)) ?_
      rintro v h' ⟨rfl, rfl⟩
      generalize p.append (encsB g).length [⟨6, 9, 0, 0⟩] = q
      obtain ⟨p3, e⟩ := q
      unfold Tp.h Tp.o
      simp only
      (with_reducible((first|apply WO2_finw|apply WO2_fina);(conv=>lhs;simp only[go_sem, ibin, ishift])<;>rfl))
      (repeat' with_reducible first |apply qA|apply qB|apply qC|apply qD|apply qE|apply qF|(apply qG;decide)|apply qH|apply qI|apply qJ|apply qK|((first|apply qL|apply qM|apply qN|apply qO|((first|apply qP|apply qQ);decide +kernel));(conv=>lhs;simp only[go_sem, ibin, ishift])<;>rfl)|((first|apply qR|apply qS);(conv=>lhs;simp only[go_sem])<;>rfl;rfl)|((first|apply qT|apply qU);(conv=>lhs;simp only[go_sem])<;>rfl;rfl)|apply qV|apply qW|apply qX|apply qY|apply qZ)
      (with_reducible((first|apply pA|apply pB|apply pC|apply pD|apply pE|((first|apply pF|apply pG);decide +kernel));(conv=>lhs;simp only[go_sem, ibin, ishift])<;>rfl))
      refine CK_pure (rcrash_spec c.toTabR19 r) rfl ?_
      rintro v h' ⟨rfl, rfl⟩
      unfold Rt.v
      (with_reducible((first|apply pA|apply pB|apply pC|apply pD|apply pE|((first|apply pF|apply pG);decide +kernel));(conv=>lhs;simp only[go_sem, ibin, ishift])<;>rfl))
      exact ⟨rfl, _, _, Wk.viewq [6, 7, 8, 3, 4, 5] (by decide) rfl rfl rfl, p.crash, r.crash, 0, hq, (by first | rfl | ((conv => lhs; simp only [go_sem, ibin, ishift]) <;> rfl)), (by first | rfl | ((conv => lhs; simp only [go_sem, ibin, ishift]) <;> rfl))⟩
    · (repeat' with_reducible first |apply qA|apply qB|apply qC|apply qD|apply qE|apply qF|(apply qG;decide)|apply qH|apply qI|apply qJ|apply qK|((first|apply qL|apply qM|apply qN|apply qO|((first|apply qP|apply qQ);decide +kernel));(conv=>lhs;simp only[go_sem, ibin, ishift])<;>rfl)|((first|apply qR|apply qS);(conv=>lhs;simp only[go_sem])<;>rfl;rfl)|((first|apply qT|apply qU);(conv=>lhs;simp only[go_sem])<;>rfl;rfl)|apply qV|apply qW|apply qX|apply qY|apply qZ)
      exact ⟨rfl, _, _, Wk.keep [0, 3, 4, 5, 6, 7, 8, 9] rfl, p, r, 0, hS, rfl, (by first | rfl | ((conv => lhs; simp only [go_sem, ibin, ishift]) <;> rfl))⟩
  rintro t e h ⟨rfl, e1, h1, hwk, p2, r2, z, hS2, rfl, rfl⟩
  refine ⟨_, _, hwk, ?_⟩
  have ze : decide (z = z) = true := by simp
  (repeat' with_reducible first |apply qA|apply qB|apply qC|apply qD|apply qE|apply qF|(apply qG;decide)|apply qH|apply qI|apply qJ|apply qK|((first|apply qL|apply qM|apply qN|apply qO|((first|apply qP|apply qQ);decide +kernel));(conv=>lhs;simp only[go_sem, ibin, ishift])<;>rfl)|((first|apply qR|apply qS);(conv=>lhs;simp only[go_sem])<;>rfl;rfl)|((first|apply qT|apply qU);(conv=>lhs;simp only[go_sem])<;>rfl;rfl)|apply qV|apply qW|apply qX|apply qY|apply qZ)
  (with_reducible((first|apply pA|apply pB|apply pC|apply pD|apply pE|((first|apply pF|apply pG);decide +kernel));(conv=>lhs;simp only[go_sem, ibin, ishift, ze])<;>rfl))
  refine CK_call [0, 1, 2] (tells_spec c.toTabR19 p2 r2 hS2) (by decide) (by simp) rfl rfl (by first | rfl | (simp only [go_sem, Tp.h, Tp.o, ci]; done) | (simp only [go_sem, Tp.h, Tp.o, ci] <;> rfl)) ?_
  rintro v h' ⟨rfl, rfl⟩
  unfold Tp.h Tp.o
  (with_reducible((first|apply pA|apply pB|apply pC|apply pD|apply pE|((first|apply pF|apply pG);decide +kernel));(conv=>lhs;simp only[go_sem, ibin, ishift])<;>rfl))
  refine CK_lend [5] (same_spec c.toTabR x.ns x.ns (by omega)) rfl (by first | rfl | (simp only [go_sem, cN]; done) | (simp only [go_sem, cN] <;> rfl)) ?_
  rintro v h' ⟨rfl, rfl⟩
  refine ⟨rfl, fun b hb => by simp at hb, ?_⟩
  rw [decide_eq_true rfl]
  (with_reducible((first|apply WO2_finw|apply WO2_fina);(conv=>lhs;simp only[go_sem, ibin, ishift])<;>rfl))
  (repeat' with_reducible first |apply qA|apply qB|apply qC|apply qD|apply qE|apply qF|(apply qG;decide)|apply qH|apply qI|apply qJ|apply qK|((first|apply qL|apply qM|apply qN|apply qO|((first|apply qP|apply qQ);decide +kernel));(conv=>lhs;simp only[go_sem, ibin, ishift])<;>rfl)|((first|apply qR|apply qS);(conv=>lhs;simp only[go_sem])<;>rfl;rfl)|((first|apply qT|apply qU);(conv=>lhs;simp only[go_sem])<;>rfl;rfl)|apply qV|apply qW|apply qX|apply qY|apply qZ)
  refine W2.wview [0, 1, 2, 3, 5] (by decide) rfl (by (conv => lhs; simp only [go_sem, ibin, ishift]) <;> with_reducible rfl) (by (conv => lhs; simp only [go_sem, ibin, ishift]) <;> with_reducible rfl) ?_
  have hxl : x.ns.length ≤ 60 := by omega
  generalize x.ns = L at hxl
  refine W2_loopu (fun mm u g => ∃ (j : Nat) (E : List Nt), j + mm = L.length ∧ E.length = L.length ∧ u = [(132, .i .i64 j)] ∧ g = [(4, .arr 4 (E.map cN))]) L.length ⟨0, L, by omega, rfl, rfl, rfl⟩ rfl rfl ?_
  rintro mm u g ⟨j, E, hj, hEl, rfl, rfl⟩
  intro e1 h1 he1 hh1; simp only [egd, supE, hgd, supH, Nat.reduceEqDiff, Nat.reduceAdd, if_true, if_false, reduceIte] at he1 hh1; subst he1; subst hh1
  by_cases hjl : j < L.length
  · have zj : decide (j < L.length) = true := decide_eq_true hjl
    have hjE : j < E.length := by omega
    have hgE := List.getElem?_eq_getElem hjE
    generalize E[j] = ee at hgE
    have j0 : (0 : Int) ≤ (j : Int) := by omega
    have j1 : (j : Int) < (L.length : Int) := by omega
    have wj := wS (show j < 9223372036854775807 by omega)
    (repeat' with_reducible first |apply qA|apply qB|apply qC|apply qD|apply qE|apply qF|(apply qG;decide)|apply qH|apply qI|apply qJ|apply qK|((first|apply qL|apply qM|apply qN|apply qO|((first|apply qP|apply qQ);decide +kernel));(conv=>lhs;simp only[go_sem, ibin, ishift, zj, j0, j1, hjl, hjE, hgE, cN, hEl, wj])<;>rfl)|((first|apply qR|apply qS);(conv=>lhs;simp only[go_sem])<;>rfl;rfl)|((first|apply qT|apply qU);(conv=>lhs;simp only[go_sem])<;>rfl;rfl)|apply qV|apply qW|apply qX|apply qY|apply qZ)
    rw [show (E.map cN).set j [.i .i64 ee.k, .i .i64 7, .i .i64 ee.b, .i .i64 ee.c] = (E.set j ⟨ee.k, 7, ee.b, ee.c⟩).map cN by rw [List.map_set]; rfl]
    refine ⟨[0, 1, 2, 3, 4], by decide, rfl, ?_⟩
    exact ⟨L.length - (j + 1), _, _, by omega, ⟨j + 1, E.set j ⟨ee.k, 7, ee.b, ee.c⟩, by omega, (by rw [List.length_set]; exact hEl), rfl, rfl⟩, rfl, (by first | rfl | ((conv => lhs; simp only [go_sem, ibin, ishift]) <;> rfl))⟩
  have zj : decide (j < L.length) = false := decide_eq_false hjl
  (repeat' with_reducible first |apply qA|apply qB|apply qC|apply qD|apply qE|apply qF|(apply qG;decide)|apply qH|apply qI|apply qJ|apply qK|((first|apply qL|apply qM|apply qN|apply qO|((first|apply qP|apply qQ);decide +kernel));(conv=>lhs;simp only[go_sem, ibin, ishift, zj, wi1])<;>rfl)|((first|apply qR|apply qS);(conv=>lhs;simp only[go_sem])<;>rfl;rfl)|((first|apply qT|apply qU);(conv=>lhs;simp only[go_sem])<;>rfl;rfl)|apply qV|apply qW|apply qX|apply qY|apply qZ)
  refine ⟨[0, 1, 2, 3], by decide, rfl, ?_⟩
  exact ⟨80 - (i + 1), _, _, by omega, ⟨i + 1, p2, r2, by omega, hS2, rfl, rfl⟩, rfl, (by first | rfl | ((conv => lhs; simp only [go_sem, ibin, ishift]) <;> rfl))⟩
end Go.Proofs.Ytfmkomjflhifnaa.Ab
