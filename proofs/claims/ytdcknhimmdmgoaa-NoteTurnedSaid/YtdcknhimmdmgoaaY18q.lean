/- Chapter 18: NoteTurned. -/
import Derived.Test.YtdcknhimmdmgoaaY18j
import Derived.Test.YtdcknhimmdmgoaaY18p
namespace Go.Proofs.Ytdcknhimmdmgoaa.Ab
open Go
set_option linter.unusedVariables false
set_option linter.unusedSimpArgs false
variable {T : AT}
theorem flips_len : ∀ (ks : List Nat) (l : List UInt8), (ks.foldl flipB l).length = l.length
  | [], l => rfl
  | k :: ks, l => by rw [List.foldl_cons, flips_len ks, flip_len]
theorem flips_head : ∀ (ks : List Nat) (l : List UInt8), (∀ k ∈ ks, 8 ≤ k) → (ks.foldl flipB l)[0]? = l[0]?
  | [], l, _ => rfl
  | k :: ks, l, h => by
    have := h k (.head _)
    rw [List.foldl_cons, flips_head ks _ fun j hj => h j (.tail _ hj), flipB, List.getElem?_set_ne (by omega)]
theorem runB_flips (c : B16) : ∀ (ks : List Nat) (l : List UInt8), (∀ k ∈ ks, k < 8 * l.length) → runB c (ks.foldl flipB l) = ks.foldl (fun x k => x ^^^ synB (8 * l.length - k)) (runB c l)
  | [], l, _ => rfl
  | k :: ks, l, h => by
    rw [List.foldl_cons, runB_flips c ks _ fun j hj => by rw [flip_len]; exact h j (.tail _ hj), flip_len, runB_flip c l k (h k (.head _)), List.foldl_cons]
theorem turned {n : Nt} (hg : goodN n) {ks : List Nat} (h1 : 1 ≤ ks.length) (h3 : ks.length ≤ 3) (hk : ∀ k ∈ ks, 8 ≤ k ∧ k < 8 * (encB n).length) {m : Nt} (hm : goodN m) (hp : encB m <+: ks.foldl flipB (encB n)) : ks.foldl flipB (encB n) = encB n := by
  have hl := (encB_le hg).1
  have h := note_only hg (flips_len ks _) (flips_head ks _ fun k h => (hk k h).1) hm hp
  rw [runB_flips _ _ _ fun k h => (hk k h).2, encB, runB_seal, ← encB] at h
  match ks, h1, h3, hk, h with
  | [a], _, _, hk, h =>
    simp only [List.foldl_cons, List.foldl_nil, BitVec.zero_xor] at h
    have := hk a (by simp)
    exact (syn1 (by omega) h).elim
  | [a, b], _, _, hk, h =>
    simp only [List.foldl_cons, List.foldl_nil, BitVec.zero_xor] at h
    have ha := hk a (by simp)
    have hb := hk b (by simp)
    have h2 : synB (8 * (encB n).length - a) = synB (8 * (encB n).length - b) := by
      have := congrArg (· ^^^ synB (8 * (encB n).length - b)) h
      simpa [BitVec.xor_assoc] using this
    have h3 := syn_inj (by omega) (by omega) h2
    have : a = b := by omega
    subst this
    simp only [List.foldl_cons, List.foldl_nil, flip_flip]
  | [a, b, c], _, _, hk, h =>
    simp only [List.foldl_cons, List.foldl_nil, BitVec.zero_xor] at h
    have ha := hk a (by simp)
    have hb := hk b (by simp)
    have hc := hk c (by simp)
    exact (syn3 (by omega) (by omega) (by omega) h).elim
theorem xor8f : ∀ x y : UInt8, BitVec.ofInt 8 (x.toNat : Int) ^^^ BitVec.ofInt 8 (y.toNat : Int) = (x ^^^ y).toBitVec := fun x y => by
  have e : ∀ z : UInt8, BitVec.ofInt 8 (z.toNat : Int) = z.toBitVec := fun z => by
    apply BitVec.eq_of_toNat_eq
    simp
  rw [e, e]; rfl
theorem xor8 (x y : UInt8) : ibin .xor .u8 (x.toNat : Int) (y.toNat : Int) = some (.i .u8 ((x ^^^ y).toNat : Int)) := by
  show some (AV.i .u8 (IntKind.u8.wrap ((BitVec.ofInt 8 (x.toNat : Int) ^^^ BitVec.ofInt 8 (y.toNat : Int)).toNat : Int))) = _
  rw [xor8f]
  congr 2
  show ((x ^^^ y).toNat : Int) % 256 = _
  have := (x ^^^ y).toNat_lt
  omega
theorem shr8uf : ∀ j : Fin 8, Int.fdiv 128 (2 ^ min j.val 8) = ((UInt8.ofNat (128 / 2 ^ j.val)).toNat : Int) := by decide +kernel
theorem shr8 (k : Nat) : ishift .shr .u8 128 ((k % 8 : Nat) : Int) = some (.i .u8 ((bitB k).toNat : Int)) := by
  have h : Int.fdiv 128 (2 ^ min (k % 8) 8) = ((bitB k).toNat : Int) := shr8uf ⟨k % 8, Nat.mod_lt _ (by decide)⟩
  rw [ishift, if_neg (by omega)]
  simp only [Int.toNat_natCast, IntKind.bits]
  rw [h]
theorem noteTurned_law (t : TabL18 T) (hT : T i_stillagelaw18_NoteTurned = some (.fn c_stillagelaw18_NoteTurned)) (n : Nt) (a0 a1 a2 : Int) : Ret2 T 0 i_stillagelaw18_NoteTurned [.agg ((cN n).map .p), .agg [.i .i64 a0, .i .i64 a1, .i .i64 a2]] [] (fun v h' => v = .b true) := by
  refine Ret2_fnv hT rfl rfl ?_
  unfold cN
  simp only [List.map_cons, List.map_nil]
  (repeat' with_reducible first |apply qA|apply qB|apply qC|apply qD|apply qE|apply qF|(apply qG;decide)|apply qH|apply qI|apply qJ|apply qK|((first|apply qL|apply qM|apply qN|apply qO|((first|apply qP|apply qQ);decide +kernel));(conv=>lhs;simp only[go_sem, ibin, ishift])<;>rfl)|((first|apply qR|apply qS);(conv=>lhs;simp only[go_sem])<;>rfl;rfl)|((first|apply qT|apply qU);(conv=>lhs;simp only[go_sem])<;>rfl;rfl)|apply qV|apply qW|apply qX|apply qY|apply qZ)
  (with_reducible((first|apply pA|apply pB|apply pC|apply pD|apply pE|((first|apply pF|apply pG);decide +kernel));(conv=>lhs;simp only[go_sem, ibin, ishift])<;>rfl))
  refine CK_pure (always_spec t.awake) rfl ?_
  rintro v h' ⟨rfl, rfl⟩
  (with_reducible((first|apply WO2_finw|apply WO2_fina);(conv=>lhs;simp only[go_sem, ibin, ishift])<;>rfl))
  (repeat' with_reducible first |apply qA|apply qB|apply qC|apply qD|apply qE|apply qF|(apply qG;decide)|apply qH|apply qI|apply qJ|apply qK|((first|apply qL|apply qM|apply qN|apply qO|((first|apply qP|apply qQ);decide +kernel));(conv=>lhs;simp only[go_sem, ibin, ishift])<;>rfl)|((first|apply qR|apply qS);(conv=>lhs;simp only[go_sem])<;>rfl;rfl)|((first|apply qT|apply qU);(conv=>lhs;simp only[go_sem])<;>rfl;rfl)|apply qV|apply qW|apply qX|apply qY|apply qZ)
  (with_reducible((first|apply pA|apply pB|apply pC|apply pD|apply pE|((first|apply pF|apply pG);decide +kernel));(conv=>lhs;simp only[go_sem, ibin, ishift])<;>rfl))
  refine CK_pure (encode_spec t.toTab18 n) rfl ?_
  rintro v h' ⟨hv1, hv2⟩
  by_cases hg : goodN n
  rotate_left
  · obtain ⟨rfl, rfl⟩ := hv2 hg
    (with_reducible((first|apply WO2_finw|apply WO2_fina);(conv=>lhs;simp only[go_sem, ibin, ishift])<;>rfl))
    (repeat' with_reducible first |apply qA|apply qB|apply qC|apply qD|apply qE|apply qF|(apply qG;decide)|apply qH|apply qI|apply qJ|apply qK|((first|apply qL|apply qM|apply qN|apply qO|((first|apply qP|apply qQ);decide +kernel));(conv=>lhs;simp only[go_sem, ibin, ishift])<;>rfl)|((first|apply qR|apply qS);(conv=>lhs;simp only[go_sem])<;>rfl;rfl)|((first|apply qT|apply qU);(conv=>lhs;simp only[go_sem])<;>rfl;rfl)|apply qV|apply qW|apply qX|apply qY|apply qZ)
    refine ⟨by first | exact .inr rfl | exact .inl rfl, _, _, (by (conv => lhs; simp only [go_sem, ibin, ishift]) <;> with_reducible rfl), (by (conv => lhs; simp only [go_sem, ibin, ishift]) <;> with_reducible rfl), ?_⟩
    refine ⟨[], by decide, rfl, ?_⟩
    rfl
  obtain ⟨rfl, rfl⟩ := hv1 hg
  obtain ⟨_, _, _, _, hb5, _⟩ := cand2_enc hg (List.prefix_refl (encB n))
  have hle := (encB_le hg).1
  have htn : ∀ ks : List Nat, 1 ≤ ks.length → ks.length ≤ 3 → (∀ k ∈ ks, 8 ≤ k ∧ k < 8 * (encB n).length) → ∀ m : Nt, goodN m → encB m <+: ks.foldl flipB (encB n) → ks.foldl flipB (encB n) = encB n := fun ks a b c m d e => turned hg a b c d e
  generalize hB : encB n = B at hb5 hle htn
  have z5 : decide ((B.length : Int) < 5) = false := decide_eq_false (by omega)
  have hroom : 0 + B.length ≤ room := by simp only [room]; omega
  have hroom1 : B.length ≤ room := by simp only [room]; omega
  (with_reducible((first|apply WO2_finw|apply WO2_fina);(conv=>lhs;simp only[go_sem, ibin, ishift])<;>rfl))
  refine W2.wfrz 2 rfl (by (conv => lhs; simp only [go_sem, ibin, ishift]) <;> with_reducible rfl) (by (conv => lhs; simp only [go_sem, ibin, ishift]) <;> with_reducible rfl) ?_
  (repeat' with_reducible first |apply qA|apply qB|apply qC|apply qD|apply qE|apply qF|(apply qG;decide)|apply qH|apply qI|apply qJ|apply qK|((first|apply qL|apply qM|apply qN|apply qO|((first|apply qP|apply qQ);decide +kernel));(conv=>lhs;simp only[go_sem, ibin, ishift, z5, hroom, hroom1])<;>rfl)|((first|apply qR|apply qS);(conv=>lhs;simp only[go_sem])<;>rfl;rfl)|((first|apply qT|apply qU);(conv=>lhs;simp only[go_sem])<;>rfl;rfl)|apply qV|apply qW|apply qX|apply qY|apply qZ)
  refine W2.wview [1, 4] (by decide) rfl (by (conv => lhs; simp only [go_sem, ibin, ishift]) <;> with_reducible rfl) (by (conv => lhs; simp only [go_sem, ibin, ishift]) <;> with_reducible rfl) ?_
  refine W2_loopu (fun m u g => ∃ (j : Nat) (ks : List Nat), j + m = 3 ∧ ks.length = j ∧ (∀ k ∈ ks, 8 ≤ k ∧ k < 8 * B.length) ∧ u = [(28, .i .i64 j)] ∧ g = [(1, .arr 1 ((ks.foldl flipB B).map c8))]) 3 ⟨0, [], by omega, rfl, by simp, rfl, rfl⟩ rfl rfl ?_
  rintro m u g ⟨j, ks, hj, hkl, hks, rfl, rfl⟩
  intro e1 h1 he1 hh1; simp only [egd, supE, hgd, supH, Nat.reduceEqDiff, Nat.reduceAdd, if_true, if_false, reduceIte] at he1 hh1; subst he1; subst hh1
  have hcl := flips_len ks B
  have key : ∀ a : Int, ∃ k : Nat, 8 ≤ k ∧ k < 8 * B.length ∧ IntKind.i64.wrap (8 * (B.length : Int)) = ((8 * B.length : Nat) : Int) ∧ IntKind.i64.wrap (((8 * B.length : Nat) : Int) - 8) = ((8 * B.length - 8 : Nat) : Int) ∧ IntKind.u64.wrap ((8 * B.length - 8 : Nat) : Int) = ((8 * B.length - 8 : Nat) : Int) ∧
      IntKind.i64.wrap (8 + IntKind.i64.wrap ((IntKind.u64.wrap a).tmod ((8 * B.length - 8 : Nat) : Int))) = (k : Int) := fun a => by
    have e : IntKind.u64.wrap a = a % 18446744073709551616 := rfl
    have h0 : 0 ≤ a % 18446744073709551616 := Int.emod_nonneg _ (by decide)
    have hm : (a % 18446744073709551616).tmod ((8 * B.length - 8 : Nat) : Int) = (((a % 18446744073709551616).toNat % (8 * B.length - 8) : Nat) : Int) := by
      rw [Int.tmod_eq_emod_of_nonneg h0, Int.natCast_emod, Int.toNat_of_nonneg h0]
    have hlt := Nat.mod_lt (a % 18446744073709551616).toNat (show 8 * B.length - 8 > 0 by omega)
    refine ⟨(a % 18446744073709551616).toNat % (8 * B.length - 8) + 8, by omega, by omega, ?_, ?_, ?_, ?_⟩
    · rw [wi _ (by omega) (by omega)]; omega
    · rw [wi _ (by omega) (by omega)]; omega
    · show ((8 * B.length - 8 : Nat) : Int) % 18446744073709551616 = _; omega
    · rw [e, hm, wi (((a % 18446744073709551616).toNat % (8 * B.length - 8) : Nat) : Int) (by omega) (by omega), wi _ (by omega) (by omega)]; omega
  have hj4 : j = 0 ∨ j = 1 ∨ j = 2 ∨ j = 3 := by omega
  have fin : ∀ k : Nat, 8 ≤ k → k < 8 * B.length → j < 3 → (ks ++ [k]).length = j + 1 ∧ (∀ i ∈ ks ++ [k], 8 ≤ i ∧ i < 8 * B.length) ∧ (ks ++ [k]).foldl flipB B = flipB (ks.foldl flipB B) k := fun k h1 h2 _ => by
    refine ⟨by simp [hkl], fun i hi => ?_, by rw [List.foldl_append]; rfl⟩
    rcases List.mem_append.1 hi with hi | hi
    · exact hks i hi
    · rw [List.mem_singleton.1 hi]; exact ⟨h1, h2⟩
  generalize hC : ks.foldl flipB B = C at hcl fin
  rcases hj4 with rfl | rfl | rfl | rfl
  case' inr.inr.inr =>
    (repeat' with_reducible first |apply qA|apply qB|apply qC|apply qD|apply qE|apply qF|(apply qG;decide)|apply qH|apply qI|apply qJ|apply qK|((first|apply qL|apply qM|apply qN|apply qO|((first|apply qP|apply qQ);decide +kernel));(conv=>lhs;simp only[go_sem, ibin, ishift])<;>rfl)|((first|apply qR|apply qS);(conv=>lhs;simp only[go_sem])<;>rfl;rfl)|((first|apply qT|apply qU);(conv=>lhs;simp only[go_sem])<;>rfl;rfl)|apply qV|apply qW|apply qX|apply qY|apply qZ)
    refine ⟨by first | exact .inr rfl | exact .inl rfl, _, _, (by (conv => lhs; simp only [go_sem, ibin, ishift]) <;> with_reducible rfl), (by (conv => lhs; simp only [go_sem, ibin, ishift]) <;> with_reducible rfl), ?_⟩
    refine ⟨[], by decide, rfl, ?_⟩
    rfl
  case' inl => obtain ⟨k, k1, k2, w1, w2, w3, w4⟩ := key a0
  case' inr.inl => obtain ⟨k, k1, k2, w1, w2, w3, w4⟩ := key a1
  case' inr.inr.inl => obtain ⟨k, k1, k2, w1, w2, w3, w4⟩ := key a2
  all_goals
    obtain ⟨f1, f2, f3⟩ := fin k k1 k2 (by decide)
    have hne : ¬(((8 * B.length - 8 : Nat) : Int) = 0) := by omega
    have q8 : (k : Int).tdiv 8 = ((k / 8 : Nat) : Int) := by rw [Int.tdiv_eq_ediv_of_nonneg (by omega)]; omega
    have m8 : (k : Int).tmod 8 = ((k % 8 : Nat) : Int) := by rw [Int.tmod_eq_emod_of_nonneg (by omega)]; omega
    have wq : IntKind.i64.wrap ((k / 8 : Nat) : Int) = ((k / 8 : Nat) : Int) := wi _ (by omega) (by omega)
    have hkC : k / 8 < C.length := by omega
    have hgC := List.getElem?_eq_getElem hkC
    generalize C[k / 8] = y at hgC
    have i0 : (0 : Int) ≤ ((k / 8 : Nat) : Int) := by omega
    have i1 : ((k / 8 : Nat) : Int) < (B.length : Int) := by omega
    have i2 : k / 8 < B.length := by omega
    have x8 := xor8 y (bitB k)
    have s8 := shr8 k
    have b1 : ibin .quo .i64 (k : Int) 8 = some (.i .i64 ((k / 8 : Nat) : Int)) := by show (if (8 : Int) = 0 then none else some (AV.i .i64 (IntKind.i64.wrap ((k : Int).tdiv 8)))) = _; rw [if_neg (by decide), q8, wq]
    have b2 : ibin .rem .i64 (k : Int) 8 = some (.i .i64 ((k % 8 : Nat) : Int)) := by show (if (8 : Int) = 0 then none else some (AV.i .i64 ((k : Int).tmod 8))) = _; rw [if_neg (by decide), m8]
    (repeat' with_reducible first |apply qA|apply qB|apply qC|apply qD|apply qE|apply qF|(apply qG;decide)|apply qH|apply qI|apply qJ|apply qK|((first|apply qL|apply qM|apply qN|apply qO|((first|apply qP|apply qQ);decide +kernel));(conv=>lhs;simp only[go_sem, ibin, ishift, w1, w2, w3, w4, hne, hcl])<;>rfl)|((first|apply qR|apply qS);(conv=>lhs;simp only[go_sem])<;>rfl;rfl)|((first|apply qT|apply qU);(conv=>lhs;simp only[go_sem])<;>rfl;rfl)|apply qV|apply qW|apply qX|apply qY|apply qZ)
    (repeat' with_reducible first |apply qA|apply qB|apply qC|apply qD|apply qE|apply qF|(apply qG;decide)|apply qH|apply qI|apply qJ|apply qK|((first|apply qL|apply qM|apply qN|apply qO|((first|apply qP|apply qQ);decide +kernel));(conv=>lhs;simp only[go_sem, b1, b2, hkC, hgC, i0, i1, i2, s8, x8, c8, hcl])<;>rfl)|((first|apply qR|apply qS);(conv=>lhs;simp only[go_sem])<;>rfl;rfl)|((first|apply qT|apply qU);(conv=>lhs;simp only[go_sem])<;>rfl;rfl)|apply qV|apply qW|apply qX|apply qY|apply qZ)
    have hsetC : (C.map c8).set (k / 8) [.i .u8 ((y ^^^ bitB k).toNat : Int)] = (flipB C k).map c8 := by
      rw [flipB, hgC, List.map_set]; rfl
    rw [hsetC]
    have hfl : (flipB C k).length = B.length := by rw [flip_len, hcl]
    have htt := htn (ks ++ [k]) (by omega) (by omega) f2
    rw [f3] at htt
    generalize flipB C k = D at hfl htt f3
    rw [← hfl]
    (with_reducible((first|apply pA|apply pB|apply pC|apply pD|apply pE|((first|apply pF|apply pG);decide +kernel));(conv=>lhs;simp only[go_sem, ibin, ishift])<;>rfl))
    refine CK_lend [1] (decode_spec t.toTabD D (by omega)) rfl (by first | rfl | (simp only [go_sem, c8]; done) | (simp only [go_sem, c8] <;> rfl)) ?_
    rintro v h' ⟨rfl, hdec⟩
    rcases hdec with ⟨m, hm, hp, rfl⟩ | ⟨hno, rfl⟩
    · refine ⟨rfl, fun b hb => by simp at hb, ?_⟩
      have e : D = B := htt m hm hp
      have ze : decide (D = B) = true := decide_eq_true e
      (with_reducible((first|apply WO2_finw|apply WO2_fina);(conv=>lhs;simp only[go_sem, ibin, ishift, cN])<;>rfl))
      (repeat' with_reducible first |apply qA|apply qB|apply qC|apply qD|apply qE|apply qF|(apply qG;decide)|apply qH|apply qI|apply qJ|apply qK|((first|apply qL|apply qM|apply qN|apply qO|((first|apply qP|apply qQ);decide +kernel));(conv=>lhs;simp only[go_sem, ibin, ishift, ze])<;>rfl)|((first|apply qR|apply qS);(conv=>lhs;simp only[go_sem])<;>rfl;rfl)|((first|apply qT|apply qU);(conv=>lhs;simp only[go_sem])<;>rfl;rfl)|apply qV|apply qW|apply qX|apply qY|apply qZ)
      refine ⟨[0, 1], by decide, rfl, ?_⟩
      exact ⟨3 - (ks.length + 1), [(28, .i .i64 ((ks.length + 1 : Nat) : Int))], [(1, .arr 1 (D.map c8))], by omega, ⟨ks.length + 1, ks ++ [k], by omega, by rw [f1, hkl], by rw [hfl]; exact f2, rfl, by rw [f3]⟩, by rw [hkl]; rfl, (by first | rfl | ((conv => lhs; simp only [go_sem, ibin, ishift]) <;> rfl))⟩
    · refine ⟨rfl, fun b hb => by simp at hb, ?_⟩
      have e : D ≠ B := fun e => hno n hg (by rw [e, hB]; exact List.prefix_refl _)
      have ze : decide (D = B) = false := decide_eq_false e
      (with_reducible((first|apply WO2_finw|apply WO2_fina);(conv=>lhs;simp only[go_sem, ibin, ishift])<;>rfl))
      (repeat' with_reducible first |apply qA|apply qB|apply qC|apply qD|apply qE|apply qF|(apply qG;decide)|apply qH|apply qI|apply qJ|apply qK|((first|apply qL|apply qM|apply qN|apply qO|((first|apply qP|apply qQ);decide +kernel));(conv=>lhs;simp only[go_sem, ibin, ishift, ze])<;>rfl)|((first|apply qR|apply qS);(conv=>lhs;simp only[go_sem])<;>rfl;rfl)|((first|apply qT|apply qU);(conv=>lhs;simp only[go_sem])<;>rfl;rfl)|apply qV|apply qW|apply qX|apply qY|apply qZ)
      refine ⟨[0, 1], by decide, rfl, ?_⟩
      exact ⟨3 - (ks.length + 1), [(28, .i .i64 ((ks.length + 1 : Nat) : Int))], [(1, .arr 1 (D.map c8))], by omega, ⟨ks.length + 1, ks ++ [k], by omega, by rw [f1, hkl], by rw [hfl]; exact f2, rfl, by rw [f3]⟩, by rw [hkl]; rfl, (by first | rfl | ((conv => lhs; simp only [go_sem, ibin, ishift]) <;> rfl))⟩
end Go.Proofs.Ytdcknhimmdmgoaa.Ab
