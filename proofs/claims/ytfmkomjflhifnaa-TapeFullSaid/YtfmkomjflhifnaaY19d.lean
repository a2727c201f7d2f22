/- Chapter 19 (as 18): what is decoded is what was encoded. -/
import Derived.Test.YtfmkomjflhifnaaY19c
namespace Go.Proofs.Ytfmkomjflhifnaa.Ab
open Go
set_option linter.unusedVariables false
set_option linter.unusedSimpArgs false
variable {T : AT}
theorem or_disj (a d s : Nat) (ha : a < 2 ^ s) (hb : a + d * 2 ^ s < 9223372036854775808) : orI (a : Int) (shI (d : Int) s) = ((a + d * 2 ^ s : Nat) : Int) := by
  have hd : d * 2 ^ s < 9223372036854775808 := by omega
  have h1 : shI (d : Int) s = ((d * 2 ^ s : Nat) : Int) := by
    unfold shI
    by_cases h0 : d = 0
    · subst h0; simp [wi]
    · have hs : s ≤ 63 := by
        rcases Nat.lt_or_ge s 64 with h | h
        · omega
        · have := Nat.pow_le_pow_right (n := 2) (by decide) h
          have h2 : 2 ^ s ≤ d * 2 ^ s := Nat.le_mul_of_pos_left _ (by omega)
          have : (2 : Nat) ^ 64 = 18446744073709551616 := by decide
          omega
      rw [Nat.min_eq_left (by omega)]
      rw [show (d : Int) * 2 ^ s = ((d * 2 ^ s : Nat) : Int) by push_cast; rfl]
      rw [wi _ (by omega) (by omega)]
  rw [h1]
  unfold orI
  have e : ∀ k : Nat, k < 9223372036854775808 → (BitVec.ofInt 64 (k : Int)).toNat = k := fun k hk => by
    simp; omega
  rw [BitVec.toNat_or, e a (by omega), e _ hd]
  have h2 : a ||| d * 2 ^ s = a + d * 2 ^ s := by
    have := Nat.two_pow_add_eq_or_of_lt (i := s) (b := a) ha d
    rw [Nat.or_comm, Nat.mul_comm d, ← this, Nat.add_comm]
  rw [h2, wi _ (by omega) (by omega)]
theorem num_pos (x : Nat) : 0 < (num x).length := by unfold num; split <;> simp
/-- a number is read as it was written -/
theorem par_num {b : List UInt8} {e : Nat} : ∀ {f x at_ s acc : Nat}, num x <+: b.drop at_ → at_ + (num x).length ≤ e → (num x).length ≤ f → acc < 2 ^ s → acc + x * 2 ^ s < 9223372036854775808 →
    par b e f at_ s (acc : Int) = (((acc + x * 2 ^ s : Nat) : Int), at_ + (num x).length)
  | 0, x, at_, s, acc, hp, he, hf, ha, hb => by have := num_pos x; omega
  | f + 1, x, at_, s, acc, hp, he, hf, ha, hb => by
    have hpos := num_pos x
    rw [par, if_pos (by omega)]
    obtain ⟨rest, hr⟩ := hp
    by_cases hx : x < 128
    · have hn : num x = [UInt8.ofNat x] := by rw [num, if_pos hx]
      rw [hn] at hr ⊢
      have hg : b[at_]? = some (UInt8.ofNat x) := by
        have := congrArg (fun l => l[0]?) hr
        simp only [List.getElem?_drop, Nat.add_zero] at this
        rw [← this]; rfl
      rw [hg]
      have h1 : (UInt8.ofNat x).toNat = x := by simp; omega
      simp only [h1, if_pos hx, Nat.mod_eq_of_lt hx, or_disj acc x s ha hb]
      rfl
    · have hn : num x = UInt8.ofNat (x % 128 + 128) :: num (x / 128) := by rw [num, if_neg hx]
      rw [hn] at hr he hf ⊢
      simp only [List.length_cons] at he hf ⊢
      have hg : b[at_]? = some (UInt8.ofNat (x % 128 + 128)) := by
        have := congrArg (fun l => l[0]?) hr
        simp only [List.getElem?_drop, Nat.add_zero] at this
        rw [← this]; rfl
      have hd : b.drop (at_ + 1) = num (x / 128) ++ rest := by
        have := congrArg (fun l => l.drop 1) hr
        simp only [List.drop_drop] at this
        rw [← this]; rfl
      rw [hg]
      have h1 : (UInt8.ofNat (x % 128 + 128)).toNat = x % 128 + 128 := by simp; omega
      simp only [h1, if_neg (show ¬ x % 128 + 128 < 128 by omega)]
      have h2 : (x % 128 + 128) % 128 = x % 128 := by omega
      have hdiv : x = x % 128 + 128 * (x / 128) := by omega
      have hps : 2 ^ (s + 7) = 2 ^ s * 128 := by rw [Nat.pow_add]
      have hsplit : x * 2 ^ s = (x % 128) * 2 ^ s + (x / 128) * (2 ^ s * 128) := by
        have h3 : x * 2 ^ s = (x % 128 + 128 * (x / 128)) * 2 ^ s := by rw [← hdiv]
        rw [h3, Nat.add_mul, Nat.mul_comm 128, Nat.mul_assoc, Nat.mul_comm 128]
      rw [h2, or_disj acc (x % 128) s ha (by omega)]
      have hlt : acc + x % 128 * 2 ^ s < 2 ^ (s + 7) := by
        have : x % 128 * 2 ^ s ≤ 127 * 2 ^ s := Nat.mul_le_mul_right _ (by omega)
        rw [hps]; omega
      rw [par_num ⟨rest, hd.symm⟩ (by omega) (by omega) hlt (by rw [hps]; omega)]
      simp only [Prod.mk.injEq]
      constructor
      · rw [hps, hsplit, Nat.add_assoc]
      · omega
theorem parN_enc {b : List UInt8} {n : Nt} (hg : goodN n) (hp : encB n <+: b) {e : Nat} (he : e = (bodyB n).length + 1) : ∀ j, j ≤ (argsN n).length → parN b e j = ((argsN n).take j ++ List.replicate (3 - j) 0, 2 + (numsB ((argsN n).take j)).length)
  | 0, _ => by simp [parN, numsB]
  | j + 1, hj => by
    have ih := parN_enc hg hp he j (by omega)
    have hal : (argsN n).length ≤ 3 := by simp [argsN]; omega
    have hjl : j < (argsN n).length := by omega
    obtain ⟨x, hx, hx2⟩ : ∃ x : Nat, (argsN n)[j] = (x : Int) ∧ x ≤ 2147483647 := by
      have := args_in hg _ (List.getElem_mem hjl)
      exact ⟨(argsN n)[j].toNat, by omega, by omega⟩
    have htl : ((argsN n).take j).length = j := by simp; omega
    simp only [parN, ih]
    have hget : ((argsN n).take j ++ List.replicate (3 - j) (0 : Int))[j]? = some 0 := by
      rw [List.getElem?_append_right (by omega), htl, Nat.sub_self]
      rw [List.getElem?_replicate, if_pos (by omega)]
    have hset : ((argsN n).take j ++ List.replicate (3 - j) (0 : Int)).set j (x : Int) = (argsN n).take (j + 1) ++ List.replicate (3 - (j + 1)) 0 := by
      rw [List.set_append_right _ _ (by omega), htl, Nat.sub_self, show 3 - j = (3 - (j + 1)) + 1 by omega, List.replicate_succ, List.set_cons_zero, List.take_add_one, List.getElem?_eq_getElem hjl, hx]
      simp
    have hsplit : numsB (argsN n) = numsB ((argsN n).take j) ++ (num x ++ numsB ((argsN n).drop (j + 1))) := by
      have h1 : argsN n = (argsN n).take (j + 1) ++ (argsN n).drop (j + 1) := (List.take_append_drop _ _).symm
      have h2 : numsB (argsN n) = numsB ((argsN n).take (j + 1)) ++ numsB ((argsN n).drop (j + 1)) := by
        conv => lhs; rw [h1]
        simp only [numsB, List.flatMap_append]
      rw [h2, numsB_take hjl hx, List.append_assoc]
    have hdrop : num x <+: b.drop (2 + (numsB ((argsN n).take j)).length) := by
      obtain ⟨rest, hr⟩ := hp
      rw [← hr]
      simp only [encB, sealB, preB, bodyB, List.cons_append, List.append_assoc]
      rw [show 2 + (numsB ((argsN n).take j)).length = (numsB ((argsN n).take j)).length + 1 + 1 by omega]
      simp only [List.drop_succ_cons]
      rw [hsplit, List.append_assoc, List.drop_left, List.append_assoc]
      exact ⟨_, rfl⟩
    have hlen : (numsB (argsN n)).length = (numsB ((argsN n).take j)).length + ((num x).length + (numsB ((argsN n).drop (j + 1))).length) := by rw [hsplit]; simp
    have hbl : (bodyB n).length = (numsB (argsN n)).length + 1 := by simp [bodyB]
    have h5 := num_len x 5 (by omega) (by omega)
    have hpar := par_num (acc := 0) (s := 0) (f := 9) (e := e) hdrop (by omega) (by omega) (by decide) (by omega)
    simp only [Nat.pow_zero, Nat.mul_one, Nat.zero_add] at hpar
    rw [hget]
    simp only [Option.getD_some]
    rw [show (0 : Int) = ((0 : Nat) : Int) by rfl, hpar]
    rw [show (((0 : Nat) : Int)) = 0 by rfl, hset, numsB_take hjl hx]
    simp only [List.length_append, Prod.mk.injEq, true_and]
    omega
theorem u8int (k : Int) (h0 : 0 ≤ k) (h1 : k < 256) : ((UInt8.ofInt k).toNat : Int) = k := by
  rw [← wrap8]; simp [IntKind.wrap, IntKind.bits, IntKind.signed]; omega
theorem body_len {n : Nt} (hg : goodN n) : 1 ≤ (bodyB n).length ∧ (bodyB n).length ≤ 16 := by
  have h1 := nums_len (args_in hg)
  have h2 : (argsN n).length ≤ 3 := by simp [argsN]; omega
  simp only [bodyB, List.length_cons]
  omega
theorem enc_len2 (n : Nt) : (encB n).length = (bodyB n).length + 3 := by simp [encB, sealB, preB]
theorem cand_enc {b : List UInt8} {n : Nt} (hg : goodN n) (hp : encB n <+: b) : ∃ x y r, b = x :: y :: r ∧ x.toNat = (bodyB n).length ∧ x.toNat + 3 ≤ b.length ∧ encB n = b.take (x.toNat + 3) ∧ cand b y.toNat (x.toNat + 1) (usesZ y.toNat).toNat = n := by
  obtain ⟨hb1, hb2⟩ := body_len hg
  obtain ⟨u, hu, hu1, hu3, hk1, hk8⟩ := good_uses hg
  have hlen := hp.length_le
  rw [enc_len2] at hlen
  have hx : (UInt8.ofNat (bodyB n).length).toNat = (bodyB n).length := by simp; omega
  have hy : ((UInt8.ofInt n.k).toNat : Int) = n.k := u8int _ (by omega) (by omega)
  have hN := parN_enc hg hp rfl u (by rw [args_len hg, hu]; omega)
  have hp2 := hp
  obtain ⟨rest, hr⟩ := hp
  refine ⟨UInt8.ofNat (bodyB n).length, UInt8.ofInt n.k, (numsB (argsN n) ++ [UInt8.ofNat ((sumB (preB n)).toNat / 256), UInt8.ofNat ((sumB (preB n)).toNat % 256)]) ++ rest, ?_, hx, by omega, ?_, ?_⟩
  · rw [← hr]; simp [encB, sealB, preB, bodyB]
  · rw [hx, ← enc_len2, ← List.prefix_iff_eq_take]; exact hp2
  · rw [hy, hx, hu]
    simp only [cand]
    rw [Int.toNat_natCast, hN]
    have hal : argsN n = [n.a, n.b, n.c].take u := by simp [argsN, hu]
    obtain ⟨ga, gb, gc, _⟩ := hg
    unfold within at ga gb gc
    have hfull : (argsN n).take u ++ List.replicate (3 - u) (0 : Int) = [n.a, n.b, n.c] := by
      rw [hal, List.take_take, Nat.min_self]
      have : u = 1 ∨ u = 2 ∨ u = 3 := by omega
      rcases this with rfl | rfl | rfl
      · have h1 : n.b = 0 := by omega
        have h2 : n.c = 0 := by omega
        simp [h1, h2]
      · have h2 : n.c = 0 := by omega
        simp [h2]
      · simp
    rw [hfull]
    rfl
theorem decode_spec (t : TabD T) (b : List UInt8) (hb : b.length ≤ 1000000000) : Ret2 T 0 i_note_Decode [.fz 1 (b.map c8)] [] (fun v h' => h' = [] ∧ DecR b v) := by
  by_cases hbad : ∃ x y r, b = x :: y :: r ∧ x.toNat ≠ 0 ∧ x.toNat + 3 ≤ b.length
  · obtain ⟨x, y, r, rfl, hx, hl⟩ := hbad
    refine decode_walk t x y r hb hx hl (fun hg he => ⟨rfl, .inl ⟨_, hg, ?_, ?_⟩⟩) (fun hn => ⟨rfl, .inr ⟨fun n hg hp => hn ?_, rfl⟩⟩)
    · rw [he]; exact List.take_prefix _ _
    · have : (encB (cand (x :: y :: r) y.toNat (x.toNat + 1) (usesZ y.toNat).toNat)).length = x.toNat + 3 := by rw [he, List.length_take, Nat.min_eq_left hl]
      rw [this]
    · obtain ⟨x', y', r', h1, h2, h3, h4, h5⟩ := cand_enc hg hp
      cases h1
      rw [h5]
      exact ⟨hg, h4⟩
  · have hno : ∀ n, goodN n → ¬ encB n <+: b := fun n hg hp => by
      obtain ⟨x, y, r, h1, h2, h3, _⟩ := cand_enc hg hp
      exact hbad ⟨x, y, r, h1, by rw [h2]; have := (body_len hg).1; omega, h3⟩
    refine Ret2_fnv t.decode rfl rfl ?_
    by_cases h2 : b.length < 2
    · have h2' : ((b.length : Nat) : Int) < 2 := by omega
      have h2d : decide (((b.length : Nat) : Int) < 2) = true := decide_eq_true h2'
      (repeat' with_reducible first | refine thn2_nrm ?_ | refine thn2_ret ?_ | refine thn2_ex ?_ | refine blk2_nrm ?_ | refine blk2_ret ?_ | refine blk2_at ?_ | (refine blk2_ex ?_ ?_; decide) | refine W2_sas ?_ | refine W2_ss ?_ | refine W2_sret ?_ | refine W2_sexit ?_ | ((first | apply W2_srl | apply W2_srdl | apply W2_runl | apply W2_rundl); (conv => lhs; simp only [go_sem, ibin, ishift, h2']) <;> rfl) | ((first | apply W2_sct | apply W2_t2); (conv => lhs; simp only [go_sem]) <;> rfl; rfl) | ((first | apply W2_scf | apply W2_f2); (conv => lhs; simp only [go_sem]) <;> rfl; rfl) | refine W2_ret ?_ | refine W2_exit ?_ | refine W2_skip ?_ | refine W2_seq ?_ | refine W2_block ?_)
      refine ⟨by first | exact .inr rfl | exact .inl rfl, _, _, (by (conv => lhs; simp only [go_sem, ibin, ishift]) <;> with_reducible rfl), (by (conv => lhs; simp only [go_sem, ibin, ishift]) <;> with_reducible rfl), ?_⟩
      refine ⟨[], by decide, rfl, ?_⟩
      exact ⟨rfl, .inr ⟨hno, rfl⟩⟩
    · obtain ⟨x, y, r, rfl⟩ : ∃ x y r, b = x :: y :: r := by
        match b, h2 with
        | x :: y :: r, _ => exact ⟨x, y, r, rfl⟩
        | [_], h => simp at h
        | [], h => simp at h
      have hxl := x.toNat_lt
      have f1 : ¬ (((x :: y :: r).length : Nat) : Int) < 2 := by omega
      have f2 : IntKind.i64.wrap ((x.toNat : Int) + 3) = ((x.toNat + 3 : Nat) : Int) := by rw [wi _ (by omega) (by omega)]; omega
      generalize hB : x :: y :: r = b at *
      have g0 : b[0]? = some x := by rw [← hB]; rfl
      have hc : (decide (b.length < x.toNat + 3) || decide ((x.toNat : Int) = 0)) = true := by
        simp only [Bool.or_eq_true, decide_eq_true_eq]
        by_cases h3 : b.length < x.toNat + 3
        · exact .inl h3
        · right
          apply Decidable.byContradiction
          intro h4
          exact hbad ⟨x, y, r, hB.symm, by omega, by omega⟩
      (repeat' with_reducible first |apply qA|apply qB|apply qC|apply qD|apply qE|apply qF|(apply qG;decide)|apply qH|apply qI|apply qJ|apply qK|((first|apply qL|apply qM|apply qN|apply qO|((first|apply qP|apply qQ);decide +kernel));(conv=>lhs;simp only[go_sem, ibin, ishift, g0, c8, f1, f2, w64_8, id_eq, hc])<;>rfl)|((first|apply qR|apply qS);(conv=>lhs;simp only[go_sem])<;>rfl;rfl)|((first|apply qT|apply qU);(conv=>lhs;simp only[go_sem])<;>rfl;rfl)|apply qV|apply qW|apply qX|apply qY|apply qZ)
      refine ⟨by first | exact .inr rfl | exact .inl rfl, _, _, (by (conv => lhs; simp only [go_sem, ibin, ishift]) <;> with_reducible rfl), (by (conv => lhs; simp only [go_sem, ibin, ishift]) <;> with_reducible rfl), ?_⟩
      refine ⟨[], by decide, rfl, ?_⟩
      exact ⟨rfl, .inr ⟨hno, rfl⟩⟩
end Go.Proofs.Ytfmkomjflhifnaa.Ab
