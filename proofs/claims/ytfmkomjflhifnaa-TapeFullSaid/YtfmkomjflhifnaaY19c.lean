/- Chapter 19 (as 18): the note that bytes begin with. -/
import Derived.Test.YtfmkomjflhifnaaY19b
namespace Go.Proofs.Ytfmkomjflhifnaa.Ab
open Go
set_option linter.unusedVariables false
set_option linter.unusedSimpArgs false
variable {T : AT}
def orI (x y : Int) : Int := IntKind.i64.wrap ((BitVec.ofInt 64 x ||| BitVec.ofInt 64 y).toNat : Int)
def shI (x : Int) (s : Nat) : Int := IntKind.i64.wrap (x * 2 ^ (min s 64))
theorem or64 (x y : Int) : ibin .or .i64 x y = some (.i .i64 (orI x y)) := rfl
theorem shl64 (x : Int) (s : Nat) : ishift .shl .i64 x (s : Int) = some (.i .i64 (shI x s)) := by
  simp only [ishift, if_neg (show ¬ (s : Int) < 0 by omega), Int.toNat_natCast, IntKind.bits, shI]
theorem and127f : ∀ c : Fin 256, (BitVec.ofInt 8 (c.val : Int) &&& BitVec.ofInt 8 127).toNat = c.val % 128 := by decide +kernel
theorem and127 (c : UInt8) : ibin .and .u8 (c.toNat : Int) 127 = some (.i .u8 ((c.toNat % 128 : Nat) : Int)) := by
  have h := and127f ⟨c.toNat, c.toNat_lt⟩
  simp only [ibin, bitw]
  rw [show (BitVec.ofInt (IntKind.u8.bits) (c.toNat : Int) &&& BitVec.ofInt (IntKind.u8.bits) 127).toNat = c.toNat % 128 from h]
  congr 2
  rw [wrap8, u8nat]
  simp
  omega
theorem w64 (k : Nat) (hk : k < 9223372036854775808) : IntKind.i64.wrap (k : Int) = k := wi _ (by omega) (by omega)
theorem w64_8 (c : UInt8) : IntKind.i64.wrap (c.toNat : Int) = c.toNat := w64 _ (by have := c.toNat_lt; omega)
/-- one number, from a place on: its value, the place behind it -/
def par (b : List UInt8) (e : Nat) : Nat → Nat → Nat → Int → Int × Nat
  | 0, at_, _, v => (v, at_)
  | f + 1, at_, s, v =>
    if at_ < e then
      match b[at_]? with
      | some c => if c.toNat < 128 then (orI v (shI ((c.toNat % 128 : Nat) : Int) s), at_ + 1) else par b e f (at_ + 1) (s + 7) (orI v (shI ((c.toNat % 128 : Nat) : Int) s))
      | none => (v, at_)
    else (v, at_)
def parN (b : List UInt8) (e : Nat) : Nat → List Int × Nat
  | 0 => ([0, 0, 0], 2)
  | j + 1 =>
    let s := parN b e j
    let r := par b e 9 s.2 0 (s.1[j]?.getD 0)
    (s.1.set j r.1, r.2)
theorem par_le {b : List UInt8} {e : Nat} : ∀ {f at_ s : Nat} {v : Int}, at_ ≤ e → (par b e f at_ s v).2 ≤ e
  | 0, _, _, _, h => h
  | f + 1, at_, s, v, h => by
    simp only [par]
    split
    · split
      · split
        · show at_ + 1 ≤ e; omega
        · exact par_le (by omega)
      · exact h
    · exact h
theorem parN_le {b : List UInt8} {e : Nat} (he : 2 ≤ e) : ∀ {j : Nat}, (parN b e j).2 ≤ e ∧ (parN b e j).1.length = 3
  | 0 => ⟨he, rfl⟩
  | j + 1 => by
    have h := parN_le (b := b) he (j := j)
    simp only [parN]
    exact ⟨par_le h.1, by simpa using h.2⟩
def cand (b : List UInt8) (y : Int) (e u : Nat) : Nt := ⟨y, (parN b e u).1[0]?.getD 0, (parN b e u).1[1]?.getD 0, (parN b e u).1[2]?.getD 0⟩
theorem set_same {α : Type} {l : List α} {j : Nat} {v : α} (h : l[j]? = some v) : l.set j v = l := by
  apply List.ext_getElem?
  intro i
  rw [List.getElem?_set]
  split
  · rename_i hi
    subst hi
    have := (List.getElem?_eq_some_iff.1 h).1
    rw [h]; simp [this]
  · rfl
structure TabD (T : AT) : Prop extends Tab18 T where
  decode : T i_note_Decode = some (.fn c_note_Decode)
def DecR (b : List UInt8) (v : SV) : Prop :=
  (∃ n, goodN n ∧ encB n <+: b ∧ v = .tup [.agg ((cN n).map .p), .i .i64 (encB n).length, .i .i64 0]) ∨ ((∀ n, goodN n → ¬ encB n <+: b) ∧ v = .tup [.agg [.i .i64 0, .i .i64 0, .i .i64 0, .i .i64 0], .i .i64 0, .i .i64 180])
theorem uses_max (k : Int) : ∃ u : Nat, u ≤ 3 ∧ (if (0 : Int) > usesZ k then 0 else usesZ k) = (u : Int) ∧ u = (usesZ k).toNat := by
  refine ⟨(usesZ k).toNat, ?_, ?_, rfl⟩ <;> (unfold usesZ; (repeat' split) <;> first | omega | rfl)
theorem decode_walk (t : TabD T) (x y : UInt8) (r : List UInt8) (hb : (x :: y :: r).length ≤ 1000000000) (hx : x.toNat ≠ 0) (hlen : x.toNat + 3 ≤ (x :: y :: r).length) {R : SV → SH → Prop}
    (hR1 : goodN (cand (x :: y :: r) y.toNat (x.toNat + 1) (usesZ y.toNat).toNat) → (encB (cand (x :: y :: r) y.toNat (x.toNat + 1) (usesZ y.toNat).toNat)) = (x :: y :: r).take (x.toNat + 3) → R (.tup [.agg ((cN (cand (x :: y :: r) y.toNat (x.toNat + 1) (usesZ y.toNat).toNat)).map .p), .i .i64 (x.toNat + 3 : Nat), .i .i64 0]) [])
    (hR2 : ¬ (goodN (cand (x :: y :: r) y.toNat (x.toNat + 1) (usesZ y.toNat).toNat) ∧ (encB (cand (x :: y :: r) y.toNat (x.toNat + 1) (usesZ y.toNat).toNat)) = (x :: y :: r).take (x.toNat + 3)) → R (.tup [.agg [.i .i64 0, .i .i64 0, .i .i64 0, .i .i64 0], .i .i64 0, .i .i64 180]) []) :
    Ret2 T 0 i_note_Decode [.fz 1 ((x :: y :: r).map c8)] [] R := by
  have hxl := x.toNat_lt
  refine Ret2_fnv t.decode rfl rfl ?_
  generalize hB : x :: y :: r = b at hb hlen hR1 hR2 ⊢
  have g0 : b[0]? = some x := by rw [← hB]; rfl
  have g1 : b[1]? = some y := by rw [← hB]; rfl
  have f1 : ¬ ((b.length : Nat) : Int) < 2 := by omega
  have f2 : IntKind.i64.wrap ((x.toNat : Int) + 3) = ((x.toNat + 3 : Nat) : Int) := by rw [wi _ (by omega) (by omega)]; omega
  have f3 : ¬ b.length < x.toNat + 3 := by omega
  have f4 : ¬ ((x.toNat : Int) = 0) := by omega
  have f5 : IntKind.i64.wrap ((x.toNat : Int) + 1) = ((x.toNat + 1 : Nat) : Int) := by rw [wi _ (by omega) (by omega)]; omega
  (repeat' with_reducible first |apply qA|apply qB|apply qC|apply qD|apply qE|apply qF|(apply qG;decide)|apply qH|apply qI|apply qJ|apply qK|((first|apply qL|apply qM|apply qN|apply qO|((first|apply qP|apply qQ);decide +kernel));(conv=>lhs;simp only[go_sem, ibin, ishift, g0, g1, c8, f1, f2, f3, f4, f5, w64_8, id_eq])<;>rfl)|((first|apply qR|apply qS);(conv=>lhs;simp only[go_sem])<;>rfl;rfl)|((first|apply qT|apply qU);(conv=>lhs;simp only[go_sem])<;>rfl;rfl)|apply qV|apply qW|apply qX|apply qY|apply qZ)
  (with_reducible((first|apply pA|apply pB|apply pC|apply pD|apply pE|((first|apply pF|apply pG);decide +kernel));(conv=>lhs;simp only[go_sem, ibin, ishift])<;>rfl))
  refine CK_pure (uses_spec t.uses y.toNat) rfl ?_
  rintro v h' ⟨rfl, rfl⟩
  obtain ⟨u, hu3, hu, huu⟩ := uses_max (y.toNat : Int)
  rw [← huu] at hR1 hR2
  have hu4 : (u : Int) ≤ 3 := by omega
  (with_reducible((first|apply WO2_finw|apply WO2_fina);(conv=>lhs;simp only[go_sem, ibin, ishift, hu, hu4])<;>rfl))
  have hz : ∀ y : Int, [SV.p (PV.i .i64 y), .p (.i .i64 0), .p (.i .i64 0), .p (.i .i64 0)] = .p (.i .i64 y) :: (parN b (x.toNat + 1) 0).1.map (fun z => SV.p (.i .i64 z)) := fun y => rfl
  generalize hzz : [SV.p (PV.i .i64 0), .p (.i .i64 0), .p (.i .i64 0), .p (.i .i64 0)] = Z
  rw [hz]
  refine W2_seq (W2_block ?_)
  refine W2_loop (fun m e h => ∃ j, j + m = u ∧ e = [(0, .fz 1 (b.map c8)), (2, .ptr 0 0), (5, .ptr 1 0), (6, .i .i64 (x.toNat + 1 : Nat)), (7, .ptr 2 0), (9, .i .i64 (parN b (x.toNat + 1) j).2), (54, .so 1 3 0 u), (55, .i .i64 u), (56, .i .i64 j)] ∧
    h = [some (.obj Z), some (.obj Z), some (.obj (.p (.i .i64 y.toNat) :: (parN b (x.toNat + 1) j).1.map (fun z => SV.p (.i .i64 z)))), some (.obj [.ptr 2 1, .ptr 2 2, .ptr 2 3])]) u ⟨0, by omega, rfl, rfl⟩ ?_
  rintro m e h ⟨j, hj, rfl, rfl⟩
  obtain ⟨hat, hvl⟩ := parN_le (b := b) (show 2 ≤ x.toNat + 1 by omega) (j := j)
  (repeat' with_reducible first |apply qA|apply qB|apply qC|apply qD|apply qE|apply qF|(apply qG;decide)|apply qH|apply qI|apply qJ|apply qK|((first|apply qL|apply qM|apply qN|apply qO|((first|apply qP|apply qQ);decide +kernel));(conv=>lhs;simp only[go_sem, ibin, ishift])<;>rfl)|((first|apply qR|apply qS);(conv=>lhs;simp only[go_sem])<;>rfl;rfl)|((first|apply qT|apply qU);(conv=>lhs;simp only[go_sem])<;>rfl;rfl)|apply qV|apply qW|apply qX|apply qY|apply qZ)
  (((first | with_reducible apply W2_sc | with_reducible apply W2_cond); ((conv => lhs; simp only [go_sem]) <;> with_reducible rfl)) <;> intro hx <;> (try rw [hx]) <;> simp only [Bool.or_eq_true, Bool.and_eq_true, decide_eq_true_eq, Bool.or_eq_false_iff, Bool.and_eq_false_iff, decide_eq_false_iff_not, Bool.not_eq_true', Bool.not_eq_false', bne_iff_ne, beq_iff_eq, not_or, not_and, Decidable.not_not, ne_eq, gt_iff_lt, ge_iff_le, Int.not_lt, Int.not_le] at hx)
  · have hj3 : j < 3 := by omega
    have hp : [SV.ptr 2 1, SV.ptr 2 2, SV.ptr 2 3][j]? = some (.ptr 2 (j + 1)) := by
      have : j = 0 ∨ j = 1 ∨ j = 2 := by omega
      rcases this with rfl | rfl | rfl <;> rfl
    generalize hps : [SV.ptr 2 1, SV.ptr 2 2, SV.ptr 2 3] = ps at hp ⊢
    obtain ⟨v0, hv0⟩ : ∃ v0, (parN b (x.toNat + 1) j).1[j]? = some v0 := ⟨_, List.getElem?_eq_getElem (by omega)⟩
    generalize hrr : par b (x.toNat + 1) 9 (parN b (x.toNat + 1) j).2 0 v0 = rr
    have hstep : parN b (x.toNat + 1) (j + 1) = ((parN b (x.toNat + 1) j).1.set j rr.1, rr.2) := by
      simp only [parN, hv0, Option.getD_some, hrr]
    generalize hA : (parN b (x.toNat + 1) j).1 = A at hv0 hvl hstep ⊢
    generalize hN : (parN b (x.toNat + 1) j).2 = N at hat hrr hstep ⊢
    (repeat' with_reducible first |apply qA|apply qB|apply qC|apply qD|apply qE|apply qF|(apply qG;decide)|apply qH|apply qI|apply qJ|apply qK|((first|apply qL|apply qM|apply qN|apply qO|((first|apply qP|apply qQ);decide +kernel));(conv=>lhs;simp only[go_sem, ibin, ishift, hp, hx])<;>rfl)|((first|apply qR|apply qS);(conv=>lhs;simp only[go_sem])<;>rfl;rfl)|((first|apply qT|apply qU);(conv=>lhs;simp only[go_sem])<;>rfl;rfl)|apply qV|apply qW|apply qX|apply qY|apply qZ)
    refine W2_loop (fun m e h => ∃ (at_ s : Nat) (v : Int), m * 7 + s = 63 ∧ at_ ≤ x.toNat + 1 ∧ par b (x.toNat + 1) m at_ s v = rr ∧ e = [(0, .fz 1 (b.map c8)), (2, .ptr 0 0), (5, .ptr 1 0), (6, .i .i64 (x.toNat + 1 : Nat)), (7, .ptr 2 0), (9, .i .i64 at_), (11, .ptr 2 (j + 1)), (12, .i .i64 s), (54, .so 1 3 0 u), (55, .i .i64 u), (56, .i .i64 j)] ∧
      h = [some (.obj Z), some (.obj Z), some (.obj (.p (.i .i64 y.toNat) :: (A.set j v).map (fun z => SV.p (.i .i64 z)))), some (.obj ps)]) 9 ⟨N, 0, v0, by omega, hat, hrr, rfl, ?_⟩ ?_
    · rw [set_same hv0]
    rintro m2 e h ⟨at_, s, v, hm2, hate, hpar, rfl, rfl⟩
    (repeat' with_reducible first |apply qA|apply qB|apply qC|apply qD|apply qE|apply qF|(apply qG;decide)|apply qH|apply qI|apply qJ|apply qK|((first|apply qL|apply qM|apply qN|apply qO|((first|apply qP|apply qQ);decide +kernel));(conv=>lhs;simp only[go_sem, ibin, ishift])<;>rfl)|((first|apply qR|apply qS);(conv=>lhs;simp only[go_sem])<;>rfl;rfl)|((first|apply qT|apply qU);(conv=>lhs;simp only[go_sem])<;>rfl;rfl)|apply qV|apply qW|apply qX|apply qY|apply qZ)
    (((first | with_reducible apply W2_sc | with_reducible apply W2_cond); ((conv => lhs; simp only [go_sem]) <;> with_reducible rfl)) <;> intro hx <;> (try rw [hx]) <;> simp only [Bool.or_eq_true, Bool.and_eq_true, decide_eq_true_eq, Bool.or_eq_false_iff, Bool.and_eq_false_iff, decide_eq_false_iff_not, Bool.not_eq_true', Bool.not_eq_false', bne_iff_ne, beq_iff_eq, not_or, not_and, Decidable.not_not, ne_eq, gt_iff_lt, ge_iff_le, Int.not_lt, Int.not_le] at hx)
    · have hatb : at_ < b.length := by omega
      generalize hbc : b[at_] = c
      have hga : b[at_]? = some c := by rw [List.getElem?_eq_getElem hatb, hbc]
      have hset : (A.set j v)[j]? = some v := by rw [List.getElem?_set]; simp; omega
      have e6 : IntKind.i64.wrap ((c.toNat % 128 : Nat) : Int) = ((c.toNat % 128 : Nat) : Int) := w64 _ (by omega)
      have e7 := shl64 ((c.toNat % 128 : Nat) : Int) s
      have e8 := or64 v (shI ((c.toNat % 128 : Nat) : Int) s)
      have e9 := and127 c
      have e10 : IntKind.i64.wrap ((at_ : Int) + 1) = ((at_ + 1 : Nat) : Int) := wS (by omega)
      have e11 : IntKind.i64.wrap (((at_ + 1 : Nat) : Int) - 1) = ((at_ : Nat) : Int) := by rw [wi _ (by omega) (by omega)]; omega
      have hfit : j + 1 + 1 ≤ A.length + 1 := by omega
      (repeat' with_reducible first |apply qA|apply qB|apply qC|apply qD|apply qE|apply qF|(apply qG;decide)|apply qH|apply qI|apply qJ|apply qK|((first|apply qL|apply qM|apply qN|apply qO|((first|apply qP|apply qQ);decide +kernel));(conv=>lhs;simp only[go_sem, hga, hset, e6, e7, e8, e9, e10, e11, c8, hfit])<;>rfl)|((first|apply qR|apply qS);(conv=>lhs;simp only[go_sem])<;>rfl;rfl)|((first|apply qT|apply qU);(conv=>lhs;simp only[go_sem])<;>rfl;rfl)|apply qV|apply qW|apply qX|apply qY|apply qZ)
      have hpar2 : m2 = (m2 - 1) + 1 := by omega
      rw [hpar2, par, if_pos hx.1, hga] at hpar
      simp only at hpar
      (repeat' with_reducible first |apply qA|apply qB|apply qC|apply qD|apply qE|apply qF|(apply qG;decide)|apply qH|apply qI|apply qJ|apply qK|((first|apply qL|apply qM|apply qN|apply qO|((first|apply qP|apply qQ);decide +kernel));(conv=>lhs;simp only[go_sem, ibin, ishift, hga, e10, e11, c8])<;>rfl)|((first|apply qR|apply qS);(conv=>lhs;simp only[go_sem])<;>rfl;rfl)|((first|apply qT|apply qU);(conv=>lhs;simp only[go_sem])<;>rfl;rfl)|apply qV|apply qW|apply qX|apply qY|apply qZ)
      (((first | with_reducible apply W2_sc | with_reducible apply W2_cond); ((conv => lhs; simp only [go_sem]) <;> with_reducible rfl)) <;> intro hc <;> (try rw [hc]) <;> simp only [Bool.or_eq_true, Bool.and_eq_true, decide_eq_true_eq, Bool.or_eq_false_iff, Bool.and_eq_false_iff, decide_eq_false_iff_not, Bool.not_eq_true', Bool.not_eq_false', bne_iff_ne, beq_iff_eq, not_or, not_and, Decidable.not_not, ne_eq, gt_iff_lt, ge_iff_le, Int.not_lt, Int.not_le] at hc)
      · have hc' : c.toNat < 128 := by omega
        rw [if_pos hc'] at hpar
        subst hpar
        rw [show (List.map (fun z => SV.p (PV.i .i64 z)) (A.set j v)).set j (SV.p (PV.i .i64 (orI v (shI ((c.toNat % 128 : Nat) : Int) s)))) = List.map (fun z => SV.p (PV.i .i64 z)) (A.set j (orI v (shI ((c.toNat % 128 : Nat) : Int) s))) by rw [← List.map_set, List.set_set]]
        (repeat' with_reducible first |apply qA|apply qB|apply qC|apply qD|apply qE|apply qF|(apply qG;decide)|apply qH|apply qI|apply qJ|apply qK|((first|apply qL|apply qM|apply qN|apply qO|((first|apply qP|apply qQ);decide +kernel));(conv=>lhs;simp only[go_sem, ibin, ishift, wS (show j < 9223372036854775807 by omega)])<;>rfl)|((first|apply qR|apply qS);(conv=>lhs;simp only[go_sem])<;>rfl;rfl)|((first|apply qT|apply qU);(conv=>lhs;simp only[go_sem])<;>rfl;rfl)|apply qV|apply qW|apply qX|apply qY|apply qZ)
        refine ⟨u - (j + 1), by omega, j + 1, by omega, by rw [hstep], by rw [hstep]⟩
      · have hc' : ¬ c.toNat < 128 := by omega
        rw [if_neg hc'] at hpar
        rw [show (List.map (fun z => SV.p (PV.i .i64 z)) (A.set j v)).set j (SV.p (PV.i .i64 (orI v (shI ((c.toNat % 128 : Nat) : Int) s)))) = List.map (fun z => SV.p (PV.i .i64 z)) (A.set j (orI v (shI ((c.toNat % 128 : Nat) : Int) s))) by rw [← List.map_set, List.set_set]]
        have e12 : IntKind.i64.wrap ((s : Int) + 7) = ((s + 7 : Nat) : Int) := by rw [wi _ (by omega) (by omega)]; omega
        (repeat' with_reducible first |apply qA|apply qB|apply qC|apply qD|apply qE|apply qF|(apply qG;decide)|apply qH|apply qI|apply qJ|apply qK|((first|apply qL|apply qM|apply qN|apply qO|((first|apply qP|apply qQ);decide +kernel));(conv=>lhs;simp only[go_sem, ibin, ishift, e12])<;>rfl)|((first|apply qR|apply qS);(conv=>lhs;simp only[go_sem])<;>rfl;rfl)|((first|apply qT|apply qU);(conv=>lhs;simp only[go_sem])<;>rfl;rfl)|apply qV|apply qW|apply qX|apply qY|apply qZ)
        refine ⟨m2 - 1, by omega, at_ + 1, s + 7, _, by omega, by omega, hpar, (by first | rfl | ((conv => lhs; simp only [go_sem, ibin, ishift]) <;> rfl)), (by first | rfl | ((conv => lhs; simp only [go_sem, ibin, ishift]) <;> rfl))⟩
    · have hpar2 : rr = (v, at_) := by
        rw [← hpar]
        cases m2 with
        | zero => rfl
        | succ m3 => rw [par, if_neg (by omega)]
      subst hpar2
      (repeat' with_reducible first |apply qA|apply qB|apply qC|apply qD|apply qE|apply qF|(apply qG;decide)|apply qH|apply qI|apply qJ|apply qK|((first|apply qL|apply qM|apply qN|apply qO|((first|apply qP|apply qQ);decide +kernel));(conv=>lhs;simp only[go_sem, ibin, ishift, wS (show j < 9223372036854775807 by omega)])<;>rfl)|((first|apply qR|apply qS);(conv=>lhs;simp only[go_sem])<;>rfl;rfl)|((first|apply qT|apply qU);(conv=>lhs;simp only[go_sem])<;>rfl;rfl)|apply qV|apply qW|apply qX|apply qY|apply qZ)
      refine ⟨u - (j + 1), by omega, j + 1, by omega, by rw [hstep], by rw [hstep]⟩
  · have : j = u := by omega
    subst this
    (repeat' with_reducible first |apply qA|apply qB|apply qC|apply qD|apply qE|apply qF|(apply qG;decide)|apply qH|apply qI|apply qJ|apply qK|((first|apply qL|apply qM|apply qN|apply qO|((first|apply qP|apply qQ);decide +kernel));(conv=>lhs;simp only[go_sem, ibin, ishift])<;>rfl)|((first|apply qR|apply qS);(conv=>lhs;simp only[go_sem])<;>rfl;rfl)|((first|apply qT|apply qU);(conv=>lhs;simp only[go_sem])<;>rfl;rfl)|apply qV|apply qW|apply qX|apply qY|apply qZ)
    obtain ⟨p, q, s, hpqs⟩ : ∃ p q s, (parN b (x.toNat + 1) j).1 = [p, q, s] := by
      match (parN b (x.toNat + 1) j).1, hvl with
      | [p, q, s], _ => exact ⟨p, q, s, rfl⟩
    have hcand : cand b (y.toNat : Int) (x.toNat + 1) j = ⟨y.toNat, p, q, s⟩ := by simp [cand, hpqs]
    rw [hcand] at hR1 hR2
    rw [hpqs]
    subst hzz
    (with_reducible((first|apply pA|apply pB|apply pC|apply pD|apply pE|((first|apply pF|apply pG);decide +kernel));(conv=>lhs;simp only[go_sem, ibin, ishift])<;>rfl))
    refine CK_pure (encode_spec t.toTab18 ⟨y.toNat, p, q, s⟩) rfl ?_
    rintro v h' ⟨hgood, hbad⟩
    have f6 : IntKind.i64.wrap (((x.toNat + 1 : Nat) : Int) + 2) = ((x.toNat + 3 : Nat) : Int) := by rw [wi _ (by omega) (by omega)]; omega
    have f7 : ((x.toNat + 3 : Nat) : Int) ≤ (b.length : Nat) := by omega
    have f8 : (0 : Int) ≤ ((x.toNat + 3 : Nat) : Int) := by omega
    rcases Decidable.em (goodN ⟨y.toNat, p, q, s⟩) with hg | hg
    · obtain ⟨rfl, rfl⟩ := hgood hg
      generalize hE : encB ⟨y.toNat, p, q, s⟩ = E at hR1 hR2 ⊢
      (with_reducible((first|apply WO2_finw|apply WO2_fina);(conv=>lhs;simp only[go_sem, ibin, ishift])<;>rfl))
      (repeat' with_reducible first |apply qA|apply qB|apply qC|apply qD|apply qE|apply qF|(apply qG;decide)|apply qH|apply qI|apply qJ|apply qK|((first|apply qL|apply qM|apply qN|apply qO|((first|apply qP|apply qQ);decide +kernel));(conv=>lhs;simp only[go_sem, ibin, ishift, f6, f7, f8])<;>rfl)|((first|apply qR|apply qS);(conv=>lhs;simp only[go_sem])<;>rfl;rfl)|((first|apply qT|apply qU);(conv=>lhs;simp only[go_sem])<;>rfl;rfl)|apply qV|apply qW|apply qX|apply qY|apply qZ)
      (((first | with_reducible apply W2_sc | with_reducible apply W2_cond); ((conv => lhs; simp only [go_sem]) <;> with_reducible rfl)) <;> intro he <;> (try rw [he]) <;> simp only [Bool.or_eq_true, Bool.and_eq_true, decide_eq_true_eq, Bool.or_eq_false_iff, Bool.and_eq_false_iff, decide_eq_false_iff_not, Bool.not_eq_true', Bool.not_eq_false', bne_iff_ne, beq_iff_eq, not_or, not_and, Decidable.not_not, ne_eq, gt_iff_lt, ge_iff_le, Int.not_lt, Int.not_le] at he)
      · (repeat' with_reducible first |apply qA|apply qB|apply qC|apply qD|apply qE|apply qF|(apply qG;decide)|apply qH|apply qI|apply qJ|apply qK|((first|apply qL|apply qM|apply qN|apply qO|((first|apply qP|apply qQ);decide +kernel));(conv=>lhs;simp only[go_sem, ibin, ishift])<;>rfl)|((first|apply qR|apply qS);(conv=>lhs;simp only[go_sem])<;>rfl;rfl)|((first|apply qT|apply qU);(conv=>lhs;simp only[go_sem])<;>rfl;rfl)|apply qV|apply qW|apply qX|apply qY|apply qZ)
        refine ⟨by first | exact .inr rfl | exact .inl rfl, _, _, (by (conv => lhs; simp only [go_sem, ibin, ishift]) <;> with_reducible rfl), (by (conv => lhs; simp only [go_sem, ibin, ishift]) <;> with_reducible rfl), ?_⟩
        refine ⟨[], by decide, rfl, ?_⟩
        refine hR2 fun hh => ?_
        rcases he with he | he
        · refine he ?_
          rw [hh.2, List.length_take, Nat.min_eq_left (by omega)]
        · exact he hh.2
      · (repeat' with_reducible first |apply qA|apply qB|apply qC|apply qD|apply qE|apply qF|(apply qG;decide)|apply qH|apply qI|apply qJ|apply qK|((first|apply qL|apply qM|apply qN|apply qO|((first|apply qP|apply qQ);decide +kernel));(conv=>lhs;simp only[go_sem, ibin, ishift, f6])<;>rfl)|((first|apply qR|apply qS);(conv=>lhs;simp only[go_sem])<;>rfl;rfl)|((first|apply qT|apply qU);(conv=>lhs;simp only[go_sem])<;>rfl;rfl)|apply qV|apply qW|apply qX|apply qY|apply qZ)
        refine ⟨by first | exact .inr rfl | exact .inl rfl, _, _, (by (conv => lhs; simp only [go_sem, ibin, ishift]) <;> with_reducible rfl), (by (conv => lhs; simp only [go_sem, ibin, ishift]) <;> with_reducible rfl), ?_⟩
        refine ⟨[], by decide, rfl, ?_⟩
        exact hR1 hg he.2
    · obtain ⟨rfl, rfl⟩ := hbad hg
      (with_reducible((first|apply WO2_finw|apply WO2_fina);(conv=>lhs;simp only[go_sem, ibin, ishift])<;>rfl))
      (repeat' with_reducible first | refine thn2_nrm ?_ | refine thn2_ret ?_ | refine thn2_ex ?_ | refine blk2_nrm ?_ | refine blk2_ret ?_ | refine blk2_at ?_ | (refine blk2_ex ?_ ?_; decide) | refine W2_sas ?_ | refine W2_ss ?_ | refine W2_sret ?_ | refine W2_sexit ?_ | ((first | apply W2_srl | apply W2_srdl | apply W2_runl | apply W2_rundl); (conv => lhs; simp only [go_sem, ibin, ishift, Int.reduceEq]) <;> rfl) | ((first | apply W2_sct | apply W2_t2); (conv => lhs; simp only [go_sem]) <;> rfl; rfl) | ((first | apply W2_scf | apply W2_f2); (conv => lhs; simp only [go_sem]) <;> rfl; rfl) | refine W2_ret ?_ | refine W2_exit ?_ | refine W2_skip ?_ | refine W2_seq ?_ | refine W2_block ?_)
      refine ⟨by first | exact .inr rfl | exact .inl rfl, _, _, (by (conv => lhs; simp only [go_sem, ibin, ishift]) <;> with_reducible rfl), (by (conv => lhs; simp only [go_sem, ibin, ishift]) <;> with_reducible rfl), ?_⟩
      refine ⟨[], by decide, rfl, ?_⟩
      exact hR2 fun hh => hg hh.1
end Go.Proofs.Ytfmkomjflhifnaa.Ab
