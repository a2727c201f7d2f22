/- Chapter 19 (as 18): a note as bytes. -/
import Derived.Test.YtfmkomjflhifnaaY19a
namespace Go.Proofs.Ytfmkomjflhifnaa.Ab
open Go
set_option linter.unusedVariables false
set_option linter.unusedSimpArgs false
variable {T : AT}
def argsN (n : Nt) : List Int := [n.a, n.b, n.c].take (usesZ n.k).toNat
def numsB (l : List Int) : List UInt8 := l.flatMap fun x => num x.toNat
def bodyB (n : Nt) : List UInt8 := UInt8.ofInt n.k :: numsB (argsN n)
def preB (n : Nt) : List UInt8 := UInt8.ofNat (bodyB n).length :: bodyB n
def sealB (l : List UInt8) : List UInt8 := l ++ [UInt8.ofNat ((sumB l).toNat / 256), UInt8.ofNat ((sumB l).toNat % 256)]
def encB (n : Nt) : List UInt8 := sealB (preB n)
def hdB (k : Int) (l : List Int) : List UInt8 := 0 :: UInt8.ofInt k :: numsB l
structure Tab18 (T : AT) : Prop where
  encode : T i_note_Encode = some (.fn c_note_Encode)
  check : T i_note_Check = some (.fn c_note_Check)
  uses : T i_note_uses = some (.fn c_note_uses)
  number : T i_note_number = some (.fn c_note_number)
  sum : T i_crc_Sum = some (.fn c_crc_Sum)
  step : T i_crc_Step = some (.fn c_crc_Step)
theorem num_len5 (x : Int) (h0 : 0 ≤ x) (h1 : x ≤ 2147483647) : (num x.toNat).length ≤ 5 := num_len _ 5 (by omega) (by omega)
theorem nums_len {l : List Int} (h : ∀ x ∈ l, 0 ≤ x ∧ x ≤ 2147483647) : (numsB l).length ≤ 5 * l.length := by
  induction l with
  | nil => simp [numsB]
  | cons x l ih =>
    have h1 := num_len5 x (h x (.head _)).1 (h x (.head _)).2
    have h2 := ih fun y hy => h y (.tail _ hy)
    simp only [numsB, List.flatMap_cons, List.length_append, List.length_cons] at h2 ⊢
    omega
theorem args_in {n : Nt} (hg : goodN n) : ∀ x ∈ argsN n, 0 ≤ x ∧ x ≤ 2147483647 := fun x hx => by
  have := List.mem_of_mem_take hx
  obtain ⟨ga, gb, gc, _⟩ := hg
  unfold within at ga gb gc
  simp only [List.mem_cons, List.not_mem_nil, or_false] at this
  rcases this with rfl | rfl | rfl <;> omega
theorem good_uses {n : Nt} (hg : goodN n) : ∃ u : Nat, usesZ n.k = (u : Int) ∧ 1 ≤ u ∧ u ≤ 3 ∧ 1 ≤ n.k ∧ n.k ≤ 8 := by
  have h1 := hg.2.2.2.1
  refine ⟨(usesZ n.k).toNat, by omega, ?_⟩
  unfold usesZ at h1 ⊢
  (repeat' split) <;> simp_all <;> omega
theorem args_len {n : Nt} (hg : goodN n) : (argsN n).length = (usesZ n.k).toNat := by
  obtain ⟨u, hu, h1, h2, _⟩ := good_uses hg
  simp [argsN, hu]; omega
theorem enc_len (n : Nt) : (encB n).length = 4 + (numsB (argsN n)).length := by
  simp only [encB, sealB, preB, bodyB, List.length_append, List.length_cons, List.length_nil]; omega
theorem numsB_take {L : List Int} {j : Nat} (hj : j < L.length) {x : Nat} (hx : L[j] = (x : Int)) : numsB (L.take (j + 1)) = numsB (L.take j) ++ num x := by
  simp only [numsB]
  rw [List.take_add_one, List.getElem?_eq_getElem hj, hx]
  simp only [Option.toList_some, List.flatMap_append, List.flatMap_cons, List.flatMap_nil, List.append_nil, Int.toNat_natCast]
theorem encode_spec (t : Tab18 T) (n : Nt) :
    Ret2 T 0 i_note_Encode [.agg ((cN n).map .p)] [] (fun v h' => (goodN n → v = .tup [.sl 1 0 0 (encB n).length none, .i .i64 0] ∧ h' = [some (.arr 1 ((encB n).map c8))]) ∧ (¬ goodN n → v = .tup [.nils, .i .i64 180] ∧ h' = [])) := by
  refine Ret2_fnv t.encode rfl rfl ?_
  (repeat' with_reducible first |apply qA|apply qB|apply qC|apply qD|apply qE|apply qF|(apply qG;decide)|apply qH|apply qI|apply qJ|apply qK|((first|apply qL|apply qM|apply qN|apply qO|((first|apply qP|apply qQ);decide +kernel));(conv=>lhs;simp only[go_sem, ibin, ishift, cN])<;>rfl)|((first|apply qR|apply qS);(conv=>lhs;simp only[go_sem])<;>rfl;rfl)|((first|apply qT|apply qU);(conv=>lhs;simp only[go_sem])<;>rfl;rfl)|apply qV|apply qW|apply qX|apply qY|apply qZ)
  (with_reducible((first|apply pA|apply pB|apply pC|apply pD|apply pE|((first|apply pF|apply pG);decide +kernel));(conv=>lhs;simp only[go_sem, ibin, ishift])<;>rfl))
  refine CK_pure (check_spec t.check t.uses n) (by first | rfl | ((conv => lhs; simp only [go_sem, ibin, ishift]) <;> rfl)) ?_
  rintro v h' ⟨rfl, rfl⟩
  rcases Decidable.em (goodN n) with hg | hg
  rotate_left
  · rw [if_neg hg]
    (with_reducible((first|apply WO2_finw|apply WO2_fina);(conv=>lhs;simp only[go_sem, ibin, ishift])<;>rfl))
    (repeat' with_reducible first |apply qA|apply qB|apply qC|apply qD|apply qE|apply qF|(apply qG;decide)|apply qH|apply qI|apply qJ|apply qK|((first|apply qL|apply qM|apply qN|apply qO|((first|apply qP|apply qQ);decide +kernel));(conv=>lhs;simp only[go_sem, ibin, ishift, Int.reduceEq])<;>rfl)|((first|apply qR|apply qS);(conv=>lhs;simp only[go_sem])<;>rfl;rfl)|((first|apply qT|apply qU);(conv=>lhs;simp only[go_sem])<;>rfl;rfl)|apply qV|apply qW|apply qX|apply qY|apply qZ)
    refine ⟨by first | exact .inr rfl | exact .inl rfl, _, _, (by (conv => lhs; simp only [go_sem, ibin, ishift]) <;> with_reducible rfl), (by (conv => lhs; simp only [go_sem, ibin, ishift]) <;> with_reducible rfl), ?_⟩
    refine ⟨[], by decide, rfl, ?_⟩
    exact ⟨fun h => (hg h).elim, fun _ => ⟨rfl, rfl⟩⟩
  rw [if_pos hg]
  (with_reducible((first|apply WO2_finw|apply WO2_fina);(conv=>lhs;simp only[go_sem, ibin, ishift])<;>rfl))
  (repeat' with_reducible first |apply qA|apply qB|apply qC|apply qD|apply qE|apply qF|(apply qG;decide)|apply qH|apply qI|apply qJ|apply qK|((first|apply qL|apply qM|apply qN|apply qO|((first|apply qP|apply qQ);decide +kernel));(conv=>lhs;simp only[go_sem, ibin, ishift, Int.reduceEq])<;>rfl)|((first|apply qR|apply qS);(conv=>lhs;simp only[go_sem])<;>rfl;rfl)|((first|apply qT|apply qU);(conv=>lhs;simp only[go_sem])<;>rfl;rfl)|apply qV|apply qW|apply qX|apply qY|apply qZ)
  (with_reducible((first|apply pA|apply pB|apply pC|apply pD|apply pE|((first|apply pF|apply pG);decide +kernel));(conv=>lhs;simp only[go_sem, ibin, ishift])<;>rfl))
  refine CK_pure (uses_spec t.uses n.k) rfl ?_
  rintro v h' ⟨rfl, rfl⟩
  obtain ⟨u, hu, hu1, hu3, hk1, hk8⟩ := good_uses hg
  have hin := args_in hg
  have hargs : argsN n = [n.a, n.b, n.c].take u := by simp [argsN, hu]
  rw [hu]
  have hu4 : (u : Int) ≤ 3 := by omega
  have e0 : IntKind.u8.wrap n.k = ((UInt8.ofInt n.k).toNat : Int) := wrap8 _
  rw [e0]
  (with_reducible((first|apply WO2_finw|apply WO2_fina);(conv=>lhs;simp only[go_sem, ibin, ishift, hu4])<;>rfl))
  refine W2.wview [1, 2] (by decide) rfl (by (conv => lhs; simp only [go_sem, ibin, ishift]) <;> with_reducible rfl) (by (conv => lhs; simp only [go_sem, ibin, ishift]) <;> with_reducible rfl) ?_
  have hrow : [SV.p (PV.i .i64 n.a), SV.p (PV.i .i64 n.b), SV.p (PV.i .i64 n.c)] = [n.a, n.b, n.c].map (fun x => SV.p (PV.i .i64 x)) := rfl
  rw [hrow]
  have hll : [n.a, n.b, n.c].length = 3 := rfl
  generalize [n.a, n.b, n.c] = L at hargs hll ⊢
  rw [hargs] at hin
  refine W2_seq (W2_block ?_)
  refine W2_loopv (fun m e h => ∃ j, j + m = u ∧ e = [(5, .sl 1 0 0 (hdB n.k (L.take j)).length none), (29, .so 1 1 0 u), (30, .i .i64 u), (31, .i .i64 j)] ∧
    h = [some (.arr 1 ((hdB n.k (L.take j)).map c8)), some (.obj (L.map (fun x => SV.p (PV.i .i64 x))))]) u ⟨0, by omega, (by (try simp only [List.map_append, List.length_append, List.map_cons, List.map_nil, List.length_cons, List.length_nil, Nat.zero_add]); rfl), rfl⟩ ?_
  rintro m e h ⟨j, hj, rfl, rfl⟩
  (repeat' with_reducible first |apply qA|apply qB|apply qC|apply qD|apply qE|apply qF|(apply qG;decide)|apply qH|apply qI|apply qJ|apply qK|((first|apply qL|apply qM|apply qN|apply qO|((first|apply qP|apply qQ);decide +kernel));(conv=>lhs;simp only[go_sem, ibin, ishift])<;>rfl)|((first|apply qR|apply qS);(conv=>lhs;simp only[go_sem])<;>rfl;rfl)|((first|apply qT|apply qU);(conv=>lhs;simp only[go_sem])<;>rfl;rfl)|apply qV|apply qW|apply qX|apply qY|apply qZ)
  (((first | with_reducible apply W2_sc | with_reducible apply W2_cond); ((conv => lhs; simp only [go_sem]) <;> with_reducible rfl)) <;> intro hx <;> (try rw [hx]) <;> simp only [Bool.or_eq_true, Bool.and_eq_true, decide_eq_true_eq, Bool.or_eq_false_iff, Bool.and_eq_false_iff, decide_eq_false_iff_not, Bool.not_eq_true', Bool.not_eq_false', bne_iff_ne, beq_iff_eq, not_or, not_and, Decidable.not_not, ne_eq, gt_iff_lt, ge_iff_le, Int.not_lt, Int.not_le] at hx)
  · have hjL : j < L.length := by omega
    obtain ⟨x, hxj, hxl⟩ : ∃ x : Nat, L[j] = (x : Int) ∧ x ≤ 2147483647 := by
      have := hin L[j] (List.mem_take_iff_getElem.2 ⟨j, by omega, rfl⟩)
      exact ⟨L[j].toNat, by omega, by omega⟩
    have hg : L[j]? = some (x : Int) := by rw [List.getElem?_eq_getElem hjL, hxj]
    have hlen : (hdB n.k (L.take j)).length ≤ 100 := by
      have := nums_len (l := L.take j) (fun x hx => hin x (List.mem_of_mem_take (i := j) (by rwa [List.take_take, Nat.min_eq_left (by omega)])))
      simp only [hdB, List.length_cons, List.length_take] at this ⊢
      omega
    (repeat' with_reducible first |apply qA|apply qB|apply qC|apply qD|apply qE|apply qF|(apply qG;decide)|apply qH|apply qI|apply qJ|apply qK|((first|apply qL|apply qM|apply qN|apply qO|((first|apply qP|apply qQ);decide +kernel));(conv=>lhs;simp only[go_sem, ibin, ishift, hg, hx])<;>rfl)|((first|apply qR|apply qS);(conv=>lhs;simp only[go_sem])<;>rfl;rfl)|((first|apply qT|apply qU);(conv=>lhs;simp only[go_sem])<;>rfl;rfl)|apply qV|apply qW|apply qX|apply qY|apply qZ)
    (with_reducible((first|apply pA|apply pB|apply pC|apply pD|apply pE|((first|apply pF|apply pG);decide +kernel));(conv=>lhs;simp only[go_sem, ibin, ishift])<;>rfl))
    refine CK_call [0] (number_spec t.number (hdB n.k (L.take j)) x (by omega) (by omega)) (by decide) (by simp) rfl rfl rfl ?_
    rintro v h' ⟨rfl, rfl⟩
    have hh : hdB n.k (L.take j) ++ num x = hdB n.k (L.take (j + 1)) := by
      simp only [hdB, numsB_take hjL hxj, List.cons_append]
    rw [hh]
    (with_reducible((first|apply WO2_finw|apply WO2_fina);(conv=>lhs;simp only[go_sem, ibin, ishift])<;>rfl))
    (repeat' with_reducible first |apply qA|apply qB|apply qC|apply qD|apply qE|apply qF|(apply qG;decide)|apply qH|apply qI|apply qJ|apply qK|((first|apply qL|apply qM|apply qN|apply qO|((first|apply qP|apply qQ);decide +kernel));(conv=>lhs;simp only[go_sem, ibin, ishift, wS (show j < 9223372036854775807 by omega)])<;>rfl)|((first|apply qR|apply qS);(conv=>lhs;simp only[go_sem])<;>rfl;rfl)|((first|apply qT|apply qU);(conv=>lhs;simp only[go_sem])<;>rfl;rfl)|apply qV|apply qW|apply qX|apply qY|apply qZ)
    refine ⟨[0, 1], by decide, rfl, ?_⟩
    exact ⟨u - (j + 1), by omega, j + 1, by omega, (by first | rfl | ((conv => lhs; simp only [go_sem, ibin, ishift]) <;> rfl)), (by first | rfl | ((conv => lhs; simp only [go_sem, ibin, ishift]) <;> rfl))⟩
  · have : j = u := by omega
    subst this
    rw [← hargs, show hdB n.k (argsN n) = 0 :: bodyB n from rfl]
    rw [← hargs] at hin
    have hbl : (bodyB n).length ≤ 100 := by
      have h1 := nums_len hin
      have : (argsN n).length ≤ 3 := by rw [hargs]; simp; omega
      simp only [bodyB, List.length_cons]
      omega
    have e1 : IntKind.u8.wrap (IntKind.i64.wrap (((bodyB n).length + 1 : Nat) - 1 : Int)) = ((UInt8.ofNat (bodyB n).length).toNat : Int) := by
      rw [wi _ (by omega) (by omega), show (((bodyB n).length + 1 : Nat) - 1 : Int) = ((bodyB n).length : Int) by omega, wrap8, u8nat]
    have h0 : (0 : Int) < ((bodyB n).length + 1 : Nat) := by omega
    (repeat' with_reducible first |apply qA|apply qB|apply qC|apply qD|apply qE|apply qF|(apply qG;decide)|apply qH|apply qI|apply qJ|apply qK|((first|apply qL|apply qM|apply qN|apply qO|((first|apply qP|apply qQ);decide +kernel));(conv=>lhs;simp only[go_sem, ibin, ishift, e1, h0, c8])<;>rfl)|((first|apply qR|apply qS);(conv=>lhs;simp only[go_sem])<;>rfl;rfl)|((first|apply qT|apply qU);(conv=>lhs;simp only[go_sem])<;>rfl;rfl)|apply qV|apply qW|apply qX|apply qY|apply qZ)
    rw [show ([PV.i .u8 ((UInt8.ofNat (bodyB n).length).toNat : Int)] :: List.map c8 (bodyB n)) = (preB n).map c8 from rfl, show (bodyB n).length + 1 = (preB n).length from rfl]
    have hpl : (preB n).length ≤ 101 := by simp only [preB, List.length_cons]; omega
    (with_reducible((first|apply pA|apply pB|apply pC|apply pD|apply pE|((first|apply pF|apply pG);decide +kernel));(conv=>lhs;simp only[go_sem, ibin, ishift])<;>rfl))
    refine CK_lend [0] (sum_spec t.sum t.step (preB n) (by omega)) rfl (by first | rfl | ((conv => lhs; simp only [go_sem, ibin, ishift]) <;> rfl)) ?_
    rintro v h' ⟨rfl, rfl⟩
    refine ⟨rfl, fun b hb => by simp at hb, ?_⟩
    (with_reducible((first|apply WO2_finw|apply WO2_fina);(conv=>lhs;simp only[go_sem, ibin, ishift])<;>rfl))
    have hroom : (preB n).length + 2 ≤ room := by simp only [room]; omega
    have e2 : ishift .shr .u16 ((sumB (preB n)).toNat : Int) 8 = some (.i .u16 ((sumB (preB n) >>> 8).toNat : Int)) := sh16r _ _ (by omega) (by omega)
    have e3 : IntKind.u8.wrap ((sumB (preB n) >>> 8).toNat : Int) = ((UInt8.ofNat ((sumB (preB n)).toNat / 256)).toNat : Int) := by
      rw [wrap8, u8nat, BitVec.toNat_ushiftRight, Nat.shiftRight_eq_div_pow]
    have e4 : IntKind.u8.wrap ((sumB (preB n)).toNat : Int) = ((UInt8.ofNat ((sumB (preB n)).toNat % 256)).toNat : Int) := by
      rw [wrap8, u8nat]
      congr 1
      apply congrArg
      apply UInt8.toNat_inj.1
      simp
    (repeat' with_reducible first |apply qA|apply qB|apply qC|apply qD|apply qE|apply qF|(apply qG;decide)|apply qH|apply qI|apply qJ|apply qK|((first|apply qL|apply qM|apply qN|apply qO|((first|apply qP|apply qQ);decide +kernel));(conv=>lhs;simp only[go_sem, e2, e3, e4, hroom, ibin])<;>rfl)|((first|apply qR|apply qS);(conv=>lhs;simp only[go_sem])<;>rfl;rfl)|((first|apply qT|apply qU);(conv=>lhs;simp only[go_sem])<;>rfl;rfl)|apply qV|apply qW|apply qX|apply qY|apply qZ)
    refine ⟨by first | exact .inr rfl | exact .inl rfl, _, _, (by (conv => lhs; simp only [go_sem, ibin, ishift]) <;> with_reducible rfl), (by (conv => lhs; simp only [go_sem, ibin, ishift]) <;> with_reducible rfl), ?_⟩
    refine ⟨[3], by decide, rfl, ?_⟩
    exact ⟨fun _ => ⟨(by (try simp only [List.map_append, List.length_append, List.map_cons, List.map_nil, List.length_cons, List.length_nil, Nat.zero_add, encB, sealB]); rfl), (by (try simp only [List.map_append, List.length_append, List.map_cons, List.map_nil, List.length_cons, List.length_nil, Nat.zero_add, encB, sealB]); rfl)⟩, fun h => (h (by assumption)).elim⟩
end Go.Proofs.Ytfmkomjflhifnaa.Ab
