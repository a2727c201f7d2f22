/- Chapter 19 (as 18): the reference's bytes. -/
import Derived.Test.YtfmkomjflhifnaaY19f
namespace Go.Proofs.Ytfmkomjflhifnaa.Ab
open Go
set_option linter.unusedVariables false
set_option linter.unusedSimpArgs false
variable {T : AT}
def hdC (k : Int) (l : List Int) : List UInt8 := UInt8.ofInt k :: numsB l
theorem refbytes_spec (t : TabR T) (n : Nt) (hg : goodN n) : Ret2 T 0 i_stillageref18_Bytes [.agg ((cN n).map .p)] [] (fun v h' => v = .sl 1 0 0 (encB n).length none ∧ h' = [some (.arr 1 ((encB n).map c8))]) := by
  refine Ret2_fnv t.refBytes rfl rfl ?_
  obtain ⟨u, hu, hu1, hu3, hk1, hk8⟩ := good_uses hg
  have hin := args_in hg
  have hargs : argsN n = [n.a, n.b, n.c].take u := by simp [argsN, hu]
  have e0 : IntKind.u8.wrap n.k = ((UInt8.ofInt n.k).toNat : Int) := wrap8 _
  (repeat' with_reducible first |apply qA|apply qB|apply qC|apply qD|apply qE|apply qF|(apply qG;decide)|apply qH|apply qI|apply qJ|apply qK|((first|apply qL|apply qM|apply qN|apply qO|((first|apply qP|apply qQ);decide +kernel));(conv=>lhs;simp only[go_sem, ibin, ishift, cN, e0])<;>rfl)|((first|apply qR|apply qS);(conv=>lhs;simp only[go_sem])<;>rfl;rfl)|((first|apply qT|apply qU);(conv=>lhs;simp only[go_sem])<;>rfl;rfl)|apply qV|apply qW|apply qX|apply qY|apply qZ)
  have hrow : [SV.p (PV.i .i64 n.a), SV.p (PV.i .i64 n.b), SV.p (PV.i .i64 n.c)] = [n.a, n.b, n.c].map (fun x => SV.p (PV.i .i64 x)) := rfl
  have hbd : bodyB n = UInt8.ofInt n.k :: numsB (argsN n) := rfl
  rw [hrow]
  have hll : [n.a, n.b, n.c].length = 3 := rfl
  generalize [n.a, n.b, n.c] = L at hargs hll ⊢
  rw [hargs] at hin
  refine W2_loopv (fun m e h => ∃ j, j + m = u ∧ e = [(1, .ptr 0 0), (3, .sl 1 1 0 (hdC n.k (L.take j)).length none), (4, .ptr 2 0), (5, .i .i64 j)] ∧
    h = [some (.obj (SV.p (PV.i .i64 n.k) :: L.map (fun x => SV.p (PV.i .i64 x)))), some (.arr 1 ((hdC n.k (L.take j)).map c8)), some (.obj (L.map (fun x => SV.p (PV.i .i64 x))))]) u ⟨0, by omega, rfl, rfl⟩ ?_
  rintro m e h ⟨j, hj, rfl, rfl⟩
  have hhl : (hdC n.k (L.take j)).length ≤ 100 := by
    have := nums_len (l := L.take j) (fun x hx => hin x (List.mem_of_mem_take (i := j) (by rwa [List.take_take, Nat.min_eq_left (by omega)])))
    simp only [hdC, List.length_cons, List.length_take] at this ⊢
    omega
  (repeat' with_reducible first |apply qA|apply qB|apply qC|apply qD|apply qE|apply qF|(apply qG;decide)|apply qH|apply qI|apply qJ|apply qK|((first|apply qL|apply qM|apply qN|apply qO|((first|apply qP|apply qQ);decide +kernel));(conv=>lhs;simp only[go_sem, ibin, ishift])<;>rfl)|((first|apply qR|apply qS);(conv=>lhs;simp only[go_sem])<;>rfl;rfl)|((first|apply qT|apply qU);(conv=>lhs;simp only[go_sem])<;>rfl;rfl)|apply qV|apply qW|apply qX|apply qY|apply qZ)
  (with_reducible((first|apply pA|apply pB|apply pC|apply pD|apply pE|((first|apply pF|apply pG);decide +kernel));(conv=>lhs;simp only[go_sem, ibin, ishift])<;>rfl))
  refine CK_pure (refuses_spec t.refUses n.k) rfl ?_
  rintro v h' ⟨rfl, rfl⟩
  rw [hu]
  (with_reducible((first|apply WO2_finw|apply WO2_fina);(conv=>lhs;simp only[go_sem, ibin, ishift])<;>rfl))
  (repeat' with_reducible first |apply qA|apply qB|apply qC|apply qD|apply qE|apply qF|(apply qG;decide)|apply qH|apply qI|apply qJ|apply qK|((first|apply qL|apply qM|apply qN|apply qO|((first|apply qP|apply qQ);decide +kernel));(conv=>lhs;simp only[go_sem, ibin, ishift])<;>rfl)|((first|apply qR|apply qS);(conv=>lhs;simp only[go_sem])<;>rfl;rfl)|((first|apply qT|apply qU);(conv=>lhs;simp only[go_sem])<;>rfl;rfl)|apply qV|apply qW|apply qX|apply qY|apply qZ)
  (((first | with_reducible apply W2_sc | with_reducible apply W2_cond); ((conv => lhs; simp only [go_sem]) <;> with_reducible rfl)) <;> intro hx <;> (try rw [hx]) <;> simp only [Bool.or_eq_true, Bool.and_eq_true, decide_eq_true_eq, Bool.or_eq_false_iff, Bool.and_eq_false_iff, decide_eq_false_iff_not, Bool.not_eq_true', Bool.not_eq_false', bne_iff_ne, beq_iff_eq, not_or, not_and, Decidable.not_not, ne_eq, gt_iff_lt, ge_iff_le, Int.not_lt, Int.not_le] at hx)
  · have hjL : j < L.length := by omega
    obtain ⟨x, hxj, hxl⟩ : ∃ x : Nat, L[j] = (x : Int) ∧ x ≤ 2147483647 := by
      have := hin L[j] (List.mem_take_iff_getElem.2 ⟨j, by omega, rfl⟩)
      exact ⟨L[j].toNat, by omega, by omega⟩
    have hgx : L[j]? = some (x : Int) := by rw [List.getElem?_eq_getElem hjL, hxj]
    have hj3 : (j : Int) < 3 := by omega
    (repeat' with_reducible first |apply qA|apply qB|apply qC|apply qD|apply qE|apply qF|(apply qG;decide)|apply qH|apply qI|apply qJ|apply qK|((first|apply qL|apply qM|apply qN|apply qO|((first|apply qP|apply qQ);decide +kernel));(conv=>lhs;simp only[go_sem, ibin, ishift, hgx, hj3])<;>rfl)|((first|apply qR|apply qS);(conv=>lhs;simp only[go_sem])<;>rfl;rfl)|((first|apply qT|apply qU);(conv=>lhs;simp only[go_sem])<;>rfl;rfl)|apply qV|apply qW|apply qX|apply qY|apply qZ)
    have hstep : hdC n.k (L.take (j + 1)) = hdC n.k (L.take j) ++ num x := by simp only [hdC, numsB_take hjL hxj, List.cons_append]
    refine W2_loopv (fun m e h => ∃ l', l' ++ num m = hdC n.k (L.take j) ++ num x ∧ m ≤ 2147483647 ∧ e = [(1, .ptr 0 0), (3, .sl 1 1 0 l'.length none), (4, .ptr 2 0), (5, .i .i64 j), (6, .i .i64 m)] ∧
      h = [some (.obj (SV.p (PV.i .i64 n.k) :: L.map (fun x => SV.p (PV.i .i64 x)))), some (.arr 1 (l'.map c8)), some (.obj (L.map (fun x => SV.p (PV.i .i64 x))))]) x ⟨_, rfl, hxl, rfl, rfl⟩ ?_
    rintro y e h ⟨l', hl', hy, rfl, rfl⟩
    have hlen : l'.length + 1 ≤ room := by
      have h1 := congrArg List.length hl'
      have h2 := num_len x 5 (by omega) (by omega)
      simp at h1
      simp only [room]; omega
    (repeat' with_reducible first |apply qA|apply qB|apply qC|apply qD|apply qE|apply qF|(apply qG;decide)|apply qH|apply qI|apply qJ|apply qK|((first|apply qL|apply qM|apply qN|apply qO|((first|apply qP|apply qQ);decide +kernel));(conv=>lhs;simp only[go_sem, ibin, ishift])<;>rfl)|((first|apply qR|apply qS);(conv=>lhs;simp only[go_sem])<;>rfl;rfl)|((first|apply qT|apply qU);(conv=>lhs;simp only[go_sem])<;>rfl;rfl)|apply qV|apply qW|apply qX|apply qY|apply qZ)
    (((first | with_reducible apply W2_sc | with_reducible apply W2_cond); ((conv => lhs; simp only [go_sem]) <;> with_reducible rfl)) <;> intro hx <;> (try rw [hx]) <;> simp only [Bool.or_eq_true, Bool.and_eq_true, decide_eq_true_eq, Bool.or_eq_false_iff, Bool.and_eq_false_iff, decide_eq_false_iff_not, Bool.not_eq_true', Bool.not_eq_false', bne_iff_ne, beq_iff_eq, not_or, not_and, Decidable.not_not, ne_eq, gt_iff_lt, ge_iff_le, Int.not_lt, Int.not_le] at hx)
    · have a1 : (y : Int).tdiv 128 = ((y / 128 : Nat) : Int) := by rw [Int.tdiv_eq_ediv_of_nonneg (by omega)]; omega
      have a2 : IntKind.i64.wrap ((y / 128 : Nat) : Int) = ((y / 128 : Nat) : Int) := w64 _ (by omega)
      have a3 : IntKind.i64.wrap (((y / 128 : Nat) : Int) * 128) = ((y / 128 * 128 : Nat) : Int) := by rw [wi _ (by omega) (by omega)]; omega
      have a4 : IntKind.i64.wrap ((y : Int) - ((y / 128 * 128 : Nat) : Int)) = ((y % 128 : Nat) : Int) := by rw [wi _ (by omega) (by omega)]; omega
      have a5 : IntKind.u8.wrap ((y % 128 : Nat) : Int) = ((y % 128 : Nat) : Int) := by rw [wrap8, u8nat]; simp; omega
      have a6 : IntKind.u8.wrap (((y % 128 : Nat) : Int) + 128) = ((UInt8.ofNat (y % 128 + 128)).toNat : Int) := by
        rw [wrap8, show ((y % 128 : Nat) : Int) + 128 = ((y % 128 + 128 : Nat) : Int) by omega, u8nat]
      (repeat' with_reducible first |apply qA|apply qB|apply qC|apply qD|apply qE|apply qF|(apply qG;decide)|apply qH|apply qI|apply qJ|apply qK|((first|apply qL|apply qM|apply qN|apply qO|((first|apply qP|apply qQ);decide +kernel));(conv=>lhs;simp only[go_sem, ibin, ishift, hlen, a1, a2, a3, a4, a5, a6])<;>rfl)|((first|apply qR|apply qS);(conv=>lhs;simp only[go_sem])<;>rfl;rfl)|((first|apply qT|apply qU);(conv=>lhs;simp only[go_sem])<;>rfl;rfl)|apply qV|apply qW|apply qX|apply qY|apply qZ)
      refine ⟨[0, 4, 2], by decide, rfl, ?_⟩
      refine ⟨y / 128, by omega, l' ++ [UInt8.ofNat (y % 128 + 128)], ?_, by omega, (by (first | rfl | (simp only [go_sem, ibin, ishift, List.map_append, c8, Nat.zero_add] <;> (try rfl)))), (by (first | rfl | (simp only [go_sem, ibin, ishift, List.map_append, c8, Nat.zero_add] <;> (try rfl))))⟩
      rw [← hl', show num y = UInt8.ofNat (y % 128 + 128) :: num (y / 128) by rw [num, if_neg (by omega)]]
      simp
    · have a5 : IntKind.u8.wrap (y : Int) = ((UInt8.ofNat y).toNat : Int) := by rw [wrap8, u8nat]
      have hl2 : l' ++ [UInt8.ofNat y] = hdC n.k (L.take (j + 1)) := by
        rw [hstep, ← hl', show num y = [UInt8.ofNat y] by rw [num, if_pos (by omega)]]
      (repeat' with_reducible first |apply qA|apply qB|apply qC|apply qD|apply qE|apply qF|(apply qG;decide)|apply qH|apply qI|apply qJ|apply qK|((first|apply qL|apply qM|apply qN|apply qO|((first|apply qP|apply qQ);decide +kernel));(conv=>lhs;simp only[go_sem, ibin, ishift, hlen, a5, wS (show j < 9223372036854775807 by omega)])<;>rfl)|((first|apply qR|apply qS);(conv=>lhs;simp only[go_sem])<;>rfl;rfl)|((first|apply qT|apply qU);(conv=>lhs;simp only[go_sem])<;>rfl;rfl)|apply qV|apply qW|apply qX|apply qY|apply qZ)
      refine ⟨[0, 4, 2], by decide, rfl, ?_⟩
      refine ⟨u - (j + 1), by omega, j + 1, by omega, (by rw [← hl2, List.length_append]; first | rfl | ((conv => lhs; simp only [go_sem, ibin, ishift]) <;> rfl)), (by rw [← hl2, List.map_append]; first | rfl | ((conv => lhs; simp only [go_sem, ibin, ishift]) <;> rfl))⟩
  · have : j = u := by omega
    subst this
    have hhd : hdC n.k (L.take j) = bodyB n := by rw [hbd, hargs]; rfl
    rw [hhd]
    have hbl := body_len hg
    have a1 : IntKind.u8.wrap ((bodyB n).length : Int) = ((UInt8.ofNat (bodyB n).length).toNat : Int) := by rw [wrap8, u8nat]
    have a2 : 1 + (bodyB n).length ≤ room := by simp only [room]; omega
    (repeat' with_reducible first |apply qA|apply qB|apply qC|apply qD|apply qE|apply qF|(apply qG;decide)|apply qH|apply qI|apply qJ|apply qK|((first|apply qL|apply qM|apply qN|apply qO|((first|apply qP|apply qQ);decide +kernel));(conv=>lhs;simp only[go_sem, ibin, ishift, a1, a2])<;>rfl)|((first|apply qR|apply qS);(conv=>lhs;simp only[go_sem])<;>rfl;rfl)|((first|apply qT|apply qU);(conv=>lhs;simp only[go_sem])<;>rfl;rfl)|apply qV|apply qW|apply qX|apply qY|apply qZ)
    rw [show [PV.i .u8 ((UInt8.ofNat (bodyB n).length).toNat : Int)] :: List.map c8 (bodyB n) = (preB n).map c8 from rfl, show 1 + (bodyB n).length = (preB n).length by simp only [preB, List.length_cons]; omega]
    have hpl : (preB n).length ≤ 17 := by simp only [preB, List.length_cons]; omega
    (with_reducible((first|apply pA|apply pB|apply pC|apply pD|apply pE|((first|apply pF|apply pG);decide +kernel));(conv=>lhs;simp only[go_sem, ibin, ishift])<;>rfl))
    refine CK_lend [4] (refsum_spec t.refSum t.refStep (preB n) (by omega)) rfl (by first | rfl | ((conv => lhs; simp only [go_sem, ibin, ishift]) <;> rfl)) ?_
    rintro v h' ⟨rfl, rfl⟩
    refine ⟨rfl, fun b hb => by simp at hb, ?_⟩
    have hsl := (sumB (preB n)).isLt
    have b1 : ((sumB (preB n)).toNat : Int).tdiv 256 = (((sumB (preB n)).toNat / 256 : Nat) : Int) := by rw [Int.tdiv_eq_ediv_of_nonneg (by omega)]; omega
    have b2 : ((sumB (preB n)).toNat : Int).tmod 256 = (((sumB (preB n)).toNat % 256 : Nat) : Int) := by rw [Int.tmod_eq_emod_of_nonneg (by omega)]; omega
    have b3 : IntKind.u16.wrap (((sumB (preB n)).toNat / 256 : Nat) : Int) = (((sumB (preB n)).toNat / 256 : Nat) : Int) := by
      simp [IntKind.wrap, IntKind.bits, IntKind.signed]; omega
    have b4 : IntKind.u8.wrap (((sumB (preB n)).toNat / 256 : Nat) : Int) = ((UInt8.ofNat ((sumB (preB n)).toNat / 256)).toNat : Int) := by rw [wrap8, u8nat]
    have b5 : IntKind.u8.wrap (((sumB (preB n)).toNat % 256 : Nat) : Int) = ((UInt8.ofNat ((sumB (preB n)).toNat % 256)).toNat : Int) := by rw [wrap8, u8nat]
    have hroom : (preB n).length + 2 ≤ room := by simp only [room]; omega
    (with_reducible((first|apply WO2_finw|apply WO2_fina);(conv=>lhs;simp only[go_sem, ibin, ishift])<;>rfl))
    (repeat' with_reducible first |apply qA|apply qB|apply qC|apply qD|apply qE|apply qF|(apply qG;decide)|apply qH|apply qI|apply qJ|apply qK|((first|apply qL|apply qM|apply qN|apply qO|((first|apply qP|apply qQ);decide +kernel));(conv=>lhs;simp only[go_sem, ibin, ishift, b1, b2, b3, b4, b5, hroom])<;>rfl)|((first|apply qR|apply qS);(conv=>lhs;simp only[go_sem])<;>rfl;rfl)|((first|apply qT|apply qU);(conv=>lhs;simp only[go_sem])<;>rfl;rfl)|apply qV|apply qW|apply qX|apply qY|apply qZ)
    refine ⟨by first | exact .inr rfl | exact .inl rfl, _, _, (by (conv => lhs; simp only [go_sem, ibin, ishift]) <;> with_reducible rfl), (by (conv => lhs; simp only [go_sem, ibin, ishift]) <;> with_reducible rfl), ?_⟩
    refine ⟨[6], by decide, rfl, ?_⟩
    exact ⟨(by (try simp only [List.map_append, List.length_append, List.map_cons, List.map_nil, List.length_cons, List.length_nil, Nat.zero_add, encB, sealB]); rfl), (by (try simp only [List.map_append, List.length_append, List.map_cons, List.map_nil, List.length_cons, List.length_nil, Nat.zero_add, encB, sealB]); rfl)⟩
end Go.Proofs.Ytfmkomjflhifnaa.Ab
