/- Chapter 19 (as 18): the reference's reading. -/
import Derived.Test.YtfmkomjflhifnaaY19g
namespace Go.Proofs.Ytfmkomjflhifnaa.Ab
open Go
set_option linter.unusedVariables false
set_option linter.unusedSimpArgs false
variable {T : AT}
def par2 (b : List UInt8) (e : Nat) : Nat → Nat → Nat → Nat → Nat × Nat
  | 0, at_, _, v => (v, at_)
  | f + 1, at_, p, v =>
    if at_ < e then
      match b[at_]? with
      | some c => if c.toNat < 128 ∨ p * 128 > 1099511627776 then (v + c.toNat % 128 * p, at_ + 1) else par2 b e f (at_ + 1) (p * 128) (v + c.toNat % 128 * p)
      | none => (v, at_)
    else (v, at_)
def parN2 (b : List UInt8) (e : Nat) : Nat → List Nat × Nat
  | 0 => ([0, 0, 0], 2)
  | j + 1 =>
    let s := parN2 b e j
    let r := par2 b e 6 s.2 1 (s.1[j]?.getD 0)
    (s.1.set j r.1, r.2)
theorem parN2_len {b : List UInt8} {e : Nat} : ∀ {j : Nat}, (parN2 b e j).1.length = 3
  | 0 => rfl
  | j + 1 => by simp only [parN2, List.length_set]; exact parN2_len
theorem parN2_zero {b : List UInt8} {e : Nat} : ∀ {j i : Nat}, j ≤ i → i < 3 → (parN2 b e j).1[i]? = some 0
  | 0, i, _, h => by
    have : i = 0 ∨ i = 1 ∨ i = 2 := by omega
    rcases this with rfl | rfl | rfl <;> rfl
  | j + 1, i, h, h3 => by
    simp only [parN2]
    rw [List.getElem?_set_ne (by omega)]
    exact parN2_zero (by omega) h3
def cand2 (b : List UInt8) (y : Int) (e u : Nat) : Nt := ⟨y, (((parN2 b e u).1[0]?.getD 0 : Nat) : Int), (((parN2 b e u).1[1]?.getD 0 : Nat) : Int), (((parN2 b e u).1[2]?.getD 0 : Nat) : Int)⟩
def FirR (b : List UInt8) (v : SV) : Prop :=
  (∃ n, goodN n ∧ encB n <+: b ∧ v = .tup [.agg ((cN n).map .p), .i .i64 (encB n).length]) ∨ ((∀ n, goodN n → ¬ encB n <+: b) ∧ v = .tup [.agg [.i .i64 0, .i .i64 0, .i .i64 0, .i .i64 0], .i .i64 0])
theorem first_walk (t : TabR T) (x y : UInt8) (r : List UInt8) (hb : (x :: y :: r).length ≤ 1000000000) (hb5 : 5 ≤ (x :: y :: r).length) (hlen : x.toNat + 3 ≤ (x :: y :: r).length) {R : SV → SH → Prop}
    (hR1 : goodN (cand2 (x :: y :: r) y.toNat (x.toNat + 1) (usesZ y.toNat).toNat) → (encB (cand2 (x :: y :: r) y.toNat (x.toNat + 1) (usesZ y.toNat).toNat)).length = x.toNat + 3 → (encB (cand2 (x :: y :: r) y.toNat (x.toNat + 1) (usesZ y.toNat).toNat)) = (x :: y :: r).take (encB (cand2 (x :: y :: r) y.toNat (x.toNat + 1) (usesZ y.toNat).toNat)).length → R (.tup [.agg ((cN (cand2 (x :: y :: r) y.toNat (x.toNat + 1) (usesZ y.toNat).toNat)).map .p), .i .i64 (encB (cand2 (x :: y :: r) y.toNat (x.toNat + 1) (usesZ y.toNat).toNat)).length]) [])
    (hR2 : ¬ (goodN (cand2 (x :: y :: r) y.toNat (x.toNat + 1) (usesZ y.toNat).toNat) ∧ (encB (cand2 (x :: y :: r) y.toNat (x.toNat + 1) (usesZ y.toNat).toNat)) = (x :: y :: r).take (x.toNat + 3)) → R (.tup [.agg [.i .i64 0, .i .i64 0, .i .i64 0, .i .i64 0], .i .i64 0]) []) :
    Ret2 T 0 i_stillageref18_first [.fz 1 ((x :: y :: r).map c8)] [] R := by
  have hxl := x.toNat_lt
  refine Ret2_fnv t.refFirst rfl rfl ?_
  generalize hB : x :: y :: r = b at hb hlen hR1 hR2 hb5 ⊢
  have g0 : b[0]? = some x := by rw [← hB]; rfl
  have g1 : b[1]? = some y := by rw [← hB]; rfl
  have f1 : ¬ ((b.length : Nat) : Int) < 5 := by omega
  have f2 : IntKind.i64.wrap ((x.toNat : Int) + 3) = ((x.toNat + 3 : Nat) : Int) := by rw [wi _ (by omega) (by omega)]; omega
  have f3 : ¬ b.length < x.toNat + 3 := by omega
  have f5 : IntKind.i64.wrap ((x.toNat : Int) + 1) = ((x.toNat + 1 : Nat) : Int) := by rw [wi _ (by omega) (by omega)]; omega
  (repeat' with_reducible first |apply qA|apply qB|apply qC|apply qD|apply qE|apply qF|(apply qG;decide)|apply qH|apply qI|apply qJ|apply qK|((first|apply qL|apply qM|apply qN|apply qO|((first|apply qP|apply qQ);decide +kernel));(conv=>lhs;simp only[go_sem, ibin, ishift, g0, g1, c8, f1, f2, f3, f5, w64_8, id_eq])<;>rfl)|((first|apply qR|apply qS);(conv=>lhs;simp only[go_sem])<;>rfl;rfl)|((first|apply qT|apply qU);(conv=>lhs;simp only[go_sem])<;>rfl;rfl)|apply qV|apply qW|apply qX|apply qY|apply qZ)
  obtain ⟨u, hu3, hu, huu⟩ := uses_max (y.toNat : Int)
  rw [← huu] at hR1 hR2
  have hz : [SV.p (PV.i .i64 0), .p (.i .i64 0), .p (.i .i64 0)] = (parN2 b (x.toNat + 1) 0).1.map (fun z => SV.p (.i .i64 (z : Nat))) := rfl
  generalize hzz : [SV.p (PV.i .i64 0), .p (.i .i64 0), .p (.i .i64 0), .p (.i .i64 0)] = Z
  generalize hyy : [SV.p (PV.i .i64 (y.toNat : Int)), .p (.i .i64 0), .p (.i .i64 0), .p (.i .i64 0)] = Y
  have hY0 : Y[0]? = some (SV.p (PV.i .i64 (y.toNat : Int))) := by rw [← hyy]; rfl
  rw [hz]
  refine W2_loop (fun m e h => ∃ j, j + m = u ∧ e = [(0, .fz 1 (b.map c8)), (2, .ptr 0 0), (4, .ptr 1 0), (5, .ptr 2 0), (6, .i .i64 (parN2 b (x.toNat + 1) j).2), (7, .i .i64 j)] ∧
    h = [some (.obj Z), some (.obj Y), some (.obj ((parN2 b (x.toNat + 1) j).1.map (fun z => SV.p (.i .i64 (z : Nat)))))]) u ⟨0, by omega, rfl, rfl⟩ ?_
  rintro m e h ⟨j, hj, rfl, rfl⟩
  have hvl := parN2_len (b := b) (e := x.toNat + 1) (j := j)
  (repeat' with_reducible first |apply qA|apply qB|apply qC|apply qD|apply qE|apply qF|(apply qG;decide)|apply qH|apply qI|apply qJ|apply qK|((first|apply qL|apply qM|apply qN|apply qO|((first|apply qP|apply qQ);decide +kernel));(conv=>lhs;simp only[go_sem, ibin, ishift])<;>rfl)|((first|apply qR|apply qS);(conv=>lhs;simp only[go_sem])<;>rfl;rfl)|((first|apply qT|apply qU);(conv=>lhs;simp only[go_sem])<;>rfl;rfl)|apply qV|apply qW|apply qX|apply qY|apply qZ)
  (with_reducible((first|apply pA|apply pB|apply pC|apply pD|apply pE|((first|apply pF|apply pG);decide +kernel));(conv=>lhs;simp only[go_sem, ibin, ishift, hY0])<;>rfl))
  refine CK_pure (refuses_spec t.refUses y.toNat) rfl ?_
  rintro v h' ⟨rfl, rfl⟩
  (with_reducible((first|apply WO2_finw|apply WO2_fina);(conv=>lhs;simp only[go_sem, ibin, ishift])<;>rfl))
  (repeat' with_reducible first |apply qA|apply qB|apply qC|apply qD|apply qE|apply qF|(apply qG;decide)|apply qH|apply qI|apply qJ|apply qK|((first|apply qL|apply qM|apply qN|apply qO|((first|apply qP|apply qQ);decide +kernel));(conv=>lhs;simp only[go_sem, ibin, ishift])<;>rfl)|((first|apply qR|apply qS);(conv=>lhs;simp only[go_sem])<;>rfl;rfl)|((first|apply qT|apply qU);(conv=>lhs;simp only[go_sem])<;>rfl;rfl)|apply qV|apply qW|apply qX|apply qY|apply qZ)
  (((first | with_reducible apply W2_sc | with_reducible apply W2_cond); ((conv => lhs; simp only [go_sem]) <;> with_reducible rfl)) <;> intro hx <;> (try rw [hx]) <;> simp only [Bool.or_eq_true, Bool.and_eq_true, decide_eq_true_eq, Bool.or_eq_false_iff, Bool.and_eq_false_iff, decide_eq_false_iff_not, Bool.not_eq_true', Bool.not_eq_false', bne_iff_ne, beq_iff_eq, not_or, not_and, Decidable.not_not, ne_eq, gt_iff_lt, ge_iff_le, Int.not_lt, Int.not_le] at hx)
  · have hju : j < u := by omega
    have hj3 : j < 3 := by omega
    have hj3i : (j : Int) < 3 := by omega
    have hv0 : (parN2 b (x.toNat + 1) j).1[j]? = some 0 := parN2_zero (Nat.le_refl _) hj3
    generalize hrr : par2 b (x.toNat + 1) 6 (parN2 b (x.toNat + 1) j).2 1 0 = rr
    have hstep : parN2 b (x.toNat + 1) (j + 1) = ((parN2 b (x.toNat + 1) j).1.set j rr.1, rr.2) := by
      simp only [parN2, hv0, Option.getD_some, hrr]
    generalize hA : (parN2 b (x.toNat + 1) j).1 = A at hv0 hvl hstep ⊢
    generalize hN : (parN2 b (x.toNat + 1) j).2 = N at hrr hstep ⊢
    (repeat' with_reducible first |apply qA|apply qB|apply qC|apply qD|apply qE|apply qF|(apply qG;decide)|apply qH|apply qI|apply qJ|apply qK|((first|apply qL|apply qM|apply qN|apply qO|((first|apply qP|apply qQ);decide +kernel));(conv=>lhs;simp only[go_sem, ibin, ishift])<;>rfl)|((first|apply qR|apply qS);(conv=>lhs;simp only[go_sem])<;>rfl;rfl)|((first|apply qT|apply qU);(conv=>lhs;simp only[go_sem])<;>rfl;rfl)|apply qV|apply qW|apply qX|apply qY|apply qZ)
    refine W2_loopw (fun m e h => ∃ (at_ p v : Nat), 1 ≤ m ∧ p * 128 ^ m = 4398046511104 ∧ v < p ∧ par2 b (x.toNat + 1) m at_ p v = rr ∧ e = [(0, .fz 1 (b.map c8)), (2, .ptr 0 0), (4, .ptr 1 0), (5, .ptr 2 0), (6, .i .i64 at_), (7, .i .i64 j), (8, .i .i64 p)] ∧
      h = [some (.obj Z), some (.obj Y), some (.obj ((A.set j v).map (fun z => SV.p (.i .i64 (z : Nat)))))]) 6 ⟨N, 1, 0, by omega, by decide, by decide, hrr, rfl, ?_⟩ ?_
    · rw [set_same hv0]
    rintro m2 e h ⟨at_, p, v, hm1, hpm, hvp, hpar, rfl, rfl⟩
    have hp5 : p * 128 ≤ 4398046511104 := by
      obtain ⟨m3, rfl⟩ : ∃ m3, m2 = m3 + 1 := ⟨m2 - 1, by omega⟩
      rw [Nat.pow_succ, Nat.mul_comm (128 ^ m3), ← Nat.mul_assoc] at hpm
      have : p * 128 * 1 ≤ p * 128 * 128 ^ m3 := Nat.mul_le_mul_left _ (Nat.pos_of_ne_zero (by simp))
      omega
    (repeat' with_reducible first |apply qA|apply qB|apply qC|apply qD|apply qE|apply qF|(apply qG;decide)|apply qH|apply qI|apply qJ|apply qK|((first|apply qL|apply qM|apply qN|apply qO|((first|apply qP|apply qQ);decide +kernel));(conv=>lhs;simp only[go_sem, ibin, ishift, g0, c8, w64_8, f5])<;>rfl)|((first|apply qR|apply qS);(conv=>lhs;simp only[go_sem])<;>rfl;rfl)|((first|apply qT|apply qU);(conv=>lhs;simp only[go_sem])<;>rfl;rfl)|apply qV|apply qW|apply qX|apply qY|apply qZ)
    (((first | with_reducible apply W2_sc | with_reducible apply W2_cond); ((conv => lhs; simp only [go_sem]) <;> with_reducible rfl)) <;> intro hx <;> (try rw [hx]) <;> simp only [Bool.or_eq_true, Bool.and_eq_true, decide_eq_true_eq, Bool.or_eq_false_iff, Bool.and_eq_false_iff, decide_eq_false_iff_not, Bool.not_eq_true', Bool.not_eq_false', bne_iff_ne, beq_iff_eq, not_or, not_and, Decidable.not_not, ne_eq, gt_iff_lt, ge_iff_le, Int.not_lt, Int.not_le] at hx)
    · have hatb : at_ < b.length := by omega
      generalize hbc : b[at_] = c
      have hga : b[at_]? = some c := by rw [List.getElem?_eq_getElem hatb, hbc]
      have hset : (A.set j v)[j]? = some v := by rw [List.getElem?_set]; simp; omega
      have hcl := c.toNat_lt
      have e6 : ((c.toNat : Int)).tmod 128 = ((c.toNat % 128 : Nat) : Int) := by rw [Int.tmod_eq_emod_of_nonneg (by omega)]; omega
      have e7 : IntKind.i64.wrap ((c.toNat % 128 : Nat) : Int) = ((c.toNat % 128 : Nat) : Int) := w64 _ (by omega)
      have hmul : c.toNat % 128 * p ≤ 127 * p := Nat.mul_le_mul_right _ (by omega)
      have e8 : IntKind.i64.wrap (((c.toNat % 128 : Nat) : Int) * (p : Nat)) = ((c.toNat % 128 * p : Nat) : Int) := by
        rw [show ((c.toNat % 128 : Nat) : Int) * (p : Nat) = ((c.toNat % 128 * p : Nat) : Int) by push_cast; rfl]
        exact w64 _ (by omega)
      have e9 : IntKind.i64.wrap ((v : Int) + ((c.toNat % 128 * p : Nat) : Int)) = ((v + c.toNat % 128 * p : Nat) : Int) := by rw [wi _ (by omega) (by omega)]; omega
      have e10 : IntKind.i64.wrap ((at_ : Int) + 1) = ((at_ + 1 : Nat) : Int) := wS (by omega)
      have e11 : IntKind.i64.wrap (((at_ + 1 : Nat) : Int) - 1) = ((at_ : Nat) : Int) := by rw [wi _ (by omega) (by omega)]; omega
      have e12 : IntKind.i64.wrap ((p : Int) * 128) = ((p * 128 : Nat) : Int) := by rw [wi _ (by omega) (by omega)]; omega
      have hfit : j + 1 ≤ A.length := by omega
      have hpar2 : m2 = (m2 - 1) + 1 := by omega
      rw [hpar2, par2, if_pos hx, hga] at hpar
      simp only at hpar
      have hre : ∀ w : Nat, (List.map (fun z : Nat => SV.p (PV.i .i64 (z : Nat))) (A.set j v)).set j (SV.p (PV.i .i64 (w : Nat))) = List.map (fun z : Nat => SV.p (PV.i .i64 (z : Nat))) (A.set j w) := fun w => by rw [← List.map_set, List.set_set]
      (repeat' with_reducible first |apply qA|apply qB|apply qC|apply qD|apply qE|apply qF|(apply qG;decide)|apply qH|apply qI|apply qJ|apply qK|((first|apply qL|apply qM|apply qN|apply qO|((first|apply qP|apply qQ);decide +kernel));(conv=>lhs;simp only[go_sem, ibin, ishift, hga, hset, e6, e7, e8, e9, e10, e11, e12, c8, hfit, hj3i])<;>rfl)|((first|apply qR|apply qS);(conv=>lhs;simp only[go_sem])<;>rfl;rfl)|((first|apply qT|apply qU);(conv=>lhs;simp only[go_sem])<;>rfl;rfl)|apply qV|apply qW|apply qX|apply qY|apply qZ)
      rw [hre]
      (((first | with_reducible apply W2_sc | with_reducible apply W2_cond); ((conv => lhs; simp only [go_sem]) <;> with_reducible rfl)) <;> intro hc <;> (try rw [hc]) <;> simp only [Bool.or_eq_true, Bool.and_eq_true, decide_eq_true_eq, Bool.or_eq_false_iff, Bool.and_eq_false_iff, decide_eq_false_iff_not, Bool.not_eq_true', Bool.not_eq_false', bne_iff_ne, beq_iff_eq, not_or, not_and, Decidable.not_not, ne_eq, gt_iff_lt, ge_iff_le, Int.not_lt, Int.not_le] at hc)
      · rw [if_pos (by omega)] at hpar
        subst hpar
        (repeat' with_reducible first |apply qA|apply qB|apply qC|apply qD|apply qE|apply qF|(apply qG;decide)|apply qH|apply qI|apply qJ|apply qK|((first|apply qL|apply qM|apply qN|apply qO|((first|apply qP|apply qQ);decide +kernel));(conv=>lhs;simp only[go_sem, ibin, ishift, wS (show j < 9223372036854775807 by omega)])<;>rfl)|((first|apply qR|apply qS);(conv=>lhs;simp only[go_sem])<;>rfl;rfl)|((first|apply qT|apply qU);(conv=>lhs;simp only[go_sem])<;>rfl;rfl)|apply qV|apply qW|apply qX|apply qY|apply qZ)
        exact ⟨u - (j + 1), by omega, j + 1, by omega, by rw [hstep], by rw [hstep]⟩
      · rw [if_neg (by omega)] at hpar
        (repeat' with_reducible first |apply qA|apply qB|apply qC|apply qD|apply qE|apply qF|(apply qG;decide)|apply qH|apply qI|apply qJ|apply qK|((first|apply qL|apply qM|apply qN|apply qO|((first|apply qP|apply qQ);decide +kernel));(conv=>lhs;simp only[go_sem, ibin, ishift])<;>rfl)|((first|apply qR|apply qS);(conv=>lhs;simp only[go_sem])<;>rfl;rfl)|((first|apply qT|apply qU);(conv=>lhs;simp only[go_sem])<;>rfl;rfl)|apply qV|apply qW|apply qX|apply qY|apply qZ)
        have hm2 : m2 - 1 ≠ 0 := fun e => by
          have : m2 = 1 := by omega
          subst this
          omega
        refine ⟨_, _, .keep [0, 2, 4, 5, 6, 7, 8] rfl, ?_⟩
        refine ⟨m2 - 1, by omega, at_ + 1, p * 128, v + c.toNat % 128 * p, by omega, ?_, by omega, hpar, rfl, rfl⟩
        rw [Nat.mul_assoc, ← Nat.pow_succ', show (m2 - 1).succ = m2 by omega, hpm]
    · have hpar2 : rr = (v, at_) := by
        rw [← hpar]
        cases m2 with
        | zero => rfl
        | succ m3 => rw [par2, if_neg (by omega)]
      subst hpar2
      (repeat' with_reducible first |apply qA|apply qB|apply qC|apply qD|apply qE|apply qF|(apply qG;decide)|apply qH|apply qI|apply qJ|apply qK|((first|apply qL|apply qM|apply qN|apply qO|((first|apply qP|apply qQ);decide +kernel));(conv=>lhs;simp only[go_sem, ibin, ishift, wS (show j < 9223372036854775807 by omega)])<;>rfl)|((first|apply qR|apply qS);(conv=>lhs;simp only[go_sem])<;>rfl;rfl)|((first|apply qT|apply qU);(conv=>lhs;simp only[go_sem])<;>rfl;rfl)|apply qV|apply qW|apply qX|apply qY|apply qZ)
      exact ⟨u - (j + 1), by omega, j + 1, by omega, by rw [hstep], by rw [hstep]⟩
  · have hju : j = u := by
      have : ¬ ((j : Int) < usesZ y.toNat) := by omega
      omega
    subst hju
    obtain ⟨p, q, s, hpqs⟩ : ∃ p q s, (parN2 b (x.toNat + 1) j).1 = [p, q, s] := by
      match (parN2 b (x.toNat + 1) j).1, hvl with
      | [p, q, s], _ => exact ⟨p, q, s, rfl⟩
    have hcand : cand2 b (y.toNat : Int) (x.toNat + 1) j = ⟨y.toNat, (p : Nat), (q : Nat), (s : Nat)⟩ := by simp [cand2, hpqs]
    rw [hcand] at hR1 hR2
    rw [hpqs]
    subst hzz
    subst hyy
    (repeat' with_reducible first |apply qA|apply qB|apply qC|apply qD|apply qE|apply qF|(apply qG;decide)|apply qH|apply qI|apply qJ|apply qK|((first|apply qL|apply qM|apply qN|apply qO|((first|apply qP|apply qQ);decide +kernel));(conv=>lhs;simp only[go_sem, ibin, ishift])<;>rfl)|((first|apply qR|apply qS);(conv=>lhs;simp only[go_sem])<;>rfl;rfl)|((first|apply qT|apply qU);(conv=>lhs;simp only[go_sem])<;>rfl;rfl)|apply qV|apply qW|apply qX|apply qY|apply qZ)
    (with_reducible((first|apply pA|apply pB|apply pC|apply pD|apply pE|((first|apply pF|apply pG);decide +kernel));(conv=>lhs;simp only[go_sem, ibin, ishift])<;>rfl))
    refine CK_pure (refgood_spec t ⟨y.toNat, (p : Nat), (q : Nat), (s : Nat)⟩) rfl ?_
    rintro v h' ⟨rfl, rfl⟩
    (with_reducible((first|apply WO2_finw|apply WO2_fina);(conv=>lhs;simp only[go_sem, ibin, ishift])<;>rfl))
    rcases Decidable.em (goodN ⟨y.toNat, (p : Nat), (q : Nat), (s : Nat)⟩) with hg | hg
    rotate_left
    · rw [decide_eq_false hg]
      (repeat' with_reducible first |apply qA|apply qB|apply qC|apply qD|apply qE|apply qF|(apply qG;decide)|apply qH|apply qI|apply qJ|apply qK|((first|apply qL|apply qM|apply qN|apply qO|((first|apply qP|apply qQ);decide +kernel));(conv=>lhs;simp only[go_sem, ibin, ishift])<;>rfl)|((first|apply qR|apply qS);(conv=>lhs;simp only[go_sem])<;>rfl;rfl)|((first|apply qT|apply qU);(conv=>lhs;simp only[go_sem])<;>rfl;rfl)|apply qV|apply qW|apply qX|apply qY|apply qZ)
      refine ⟨by first | exact .inr rfl | exact .inl rfl, _, _, (by (conv => lhs; simp only [go_sem, ibin, ishift]) <;> with_reducible rfl), (by (conv => lhs; simp only [go_sem, ibin, ishift]) <;> with_reducible rfl), ?_⟩
      refine ⟨[], by decide, rfl, ?_⟩
      exact hR2 fun hh => hg hh.1
    rw [decide_eq_true hg]
    (repeat' with_reducible first |apply qA|apply qB|apply qC|apply qD|apply qE|apply qF|(apply qG;decide)|apply qH|apply qI|apply qJ|apply qK|((first|apply qL|apply qM|apply qN|apply qO|((first|apply qP|apply qQ);decide +kernel));(conv=>lhs;simp only[go_sem, ibin, ishift])<;>rfl)|((first|apply qR|apply qS);(conv=>lhs;simp only[go_sem])<;>rfl;rfl)|((first|apply qT|apply qU);(conv=>lhs;simp only[go_sem])<;>rfl;rfl)|apply qV|apply qW|apply qX|apply qY|apply qZ)
    (with_reducible((first|apply pA|apply pB|apply pC|apply pD|apply pE|((first|apply pF|apply pG);decide +kernel));(conv=>lhs;simp only[go_sem, ibin, ishift])<;>rfl))
    refine CK_pure (refbytes_spec t ⟨y.toNat, (p : Nat), (q : Nat), (s : Nat)⟩ hg) rfl ?_
    rintro v h' ⟨rfl, rfl⟩
    generalize hE : encB ⟨y.toNat, (p : Nat), (q : Nat), (s : Nat)⟩ = E at hR1 hR2 ⊢
    (with_reducible((first|apply WO2_finw|apply WO2_fina);(conv=>lhs;simp only[go_sem, ibin, ishift])<;>rfl))
    by_cases hl : E.length = x.toNat + 3
    · have hl2 : ((E.length : Nat) : Int) ≤ (b.length : Nat) := by omega
      have hl3 : decide (((E.length : Nat) : Int) = ((x.toNat + 3 : Nat) : Int)) = true := decide_eq_true (by omega)
      (repeat' with_reducible first |apply qA|apply qB|apply qC|apply qD|apply qE|apply qF|(apply qG;decide)|apply qH|apply qI|apply qJ|apply qK|((first|apply qL|apply qM|apply qN|apply qO|((first|apply qP|apply qQ);decide +kernel));(conv=>lhs;simp only[go_sem, ibin, ishift, g0, c8, w64_8, f2, hl2, hl3, id_eq])<;>rfl)|((first|apply qR|apply qS);(conv=>lhs;simp only[go_sem])<;>rfl;rfl)|((first|apply qT|apply qU);(conv=>lhs;simp only[go_sem])<;>rfl;rfl)|apply qV|apply qW|apply qX|apply qY|apply qZ)
      (((first | with_reducible apply W2_sc | with_reducible apply W2_cond); ((conv => lhs; simp only [go_sem]) <;> with_reducible rfl)) <;> intro he <;> (try rw [he]) <;> simp only [Bool.or_eq_true, Bool.and_eq_true, decide_eq_true_eq, Bool.or_eq_false_iff, Bool.and_eq_false_iff, decide_eq_false_iff_not, Bool.not_eq_true', Bool.not_eq_false', bne_iff_ne, beq_iff_eq, not_or, not_and, Decidable.not_not, ne_eq, gt_iff_lt, ge_iff_le, Int.not_lt, Int.not_le] at he)
      · (repeat' with_reducible first |apply qA|apply qB|apply qC|apply qD|apply qE|apply qF|(apply qG;decide)|apply qH|apply qI|apply qJ|apply qK|((first|apply qL|apply qM|apply qN|apply qO|((first|apply qP|apply qQ);decide +kernel));(conv=>lhs;simp only[go_sem, ibin, ishift])<;>rfl)|((first|apply qR|apply qS);(conv=>lhs;simp only[go_sem])<;>rfl;rfl)|((first|apply qT|apply qU);(conv=>lhs;simp only[go_sem])<;>rfl;rfl)|apply qV|apply qW|apply qX|apply qY|apply qZ)
        refine ⟨by first | exact .inr rfl | exact .inl rfl, _, _, (by (conv => lhs; simp only [go_sem, ibin, ishift]) <;> with_reducible rfl), (by (conv => lhs; simp only [go_sem, ibin, ishift]) <;> with_reducible rfl), ?_⟩
        refine ⟨[], by decide, rfl, ?_⟩
        exact hR2 fun hh => he (by rw [hl]; exact hh.2)
      · (repeat' with_reducible first |apply qA|apply qB|apply qC|apply qD|apply qE|apply qF|(apply qG;decide)|apply qH|apply qI|apply qJ|apply qK|((first|apply qL|apply qM|apply qN|apply qO|((first|apply qP|apply qQ);decide +kernel));(conv=>lhs;simp only[go_sem, ibin, ishift])<;>rfl)|((first|apply qR|apply qS);(conv=>lhs;simp only[go_sem])<;>rfl;rfl)|((first|apply qT|apply qU);(conv=>lhs;simp only[go_sem])<;>rfl;rfl)|apply qV|apply qW|apply qX|apply qY|apply qZ)
        refine ⟨by first | exact .inr rfl | exact .inl rfl, _, _, (by (conv => lhs; simp only [go_sem, ibin, ishift]) <;> with_reducible rfl), (by (conv => lhs; simp only [go_sem, ibin, ishift]) <;> with_reducible rfl), ?_⟩
        refine ⟨[], by decide, rfl, ?_⟩
        exact hR1 hg hl he
    · have hl3 : ¬ ((E.length : Nat) : Int) = ((x.toNat + 3 : Nat) : Int) := by omega
      (repeat' with_reducible first | refine thn2_nrm ?_ | refine thn2_ret ?_ | refine thn2_ex ?_ | refine blk2_nrm ?_ | refine blk2_ret ?_ | refine blk2_at ?_ | (refine blk2_ex ?_ ?_; decide) | refine W2_sas ?_ | refine W2_ss ?_ | refine W2_sret ?_ | refine W2_sexit ?_ | ((first | apply W2_srl | apply W2_srdl | apply W2_runl | apply W2_rundl); (conv => lhs; simp only [go_sem, ibin, ishift, g0, c8, w64_8, f2, hl3, id_eq]) <;> rfl) | ((first | apply W2_sct | apply W2_t2); (conv => lhs; simp only [go_sem]) <;> rfl; rfl) | ((first | apply W2_scf | apply W2_f2); (conv => lhs; simp only [go_sem]) <;> rfl; rfl) | refine W2_ret ?_ | refine W2_exit ?_ | refine W2_skip ?_ | refine W2_seq ?_ | refine W2_block ?_)
      refine ⟨by first | exact .inr rfl | exact .inl rfl, _, _, (by (conv => lhs; simp only [go_sem, ibin, ishift]) <;> with_reducible rfl), (by (conv => lhs; simp only [go_sem, ibin, ishift]) <;> with_reducible rfl), ?_⟩
      refine ⟨[], by decide, rfl, ?_⟩
      refine hR2 fun hh => hl ?_
      rw [hh.2, List.length_take, Nat.min_eq_left (by omega)]
end Go.Proofs.Ytfmkomjflhifnaa.Ab
