/- Chapter 19 (as 18): the reference reads the same. -/
import Derived.Test.YtfmkomjflhifnaaY19h
namespace Go.Proofs.Ytfmkomjflhifnaa.Ab
open Go
set_option linter.unusedVariables false
set_option linter.unusedSimpArgs false
variable {T : AT}
theorem par2_num {b : List UInt8} {e : Nat} : ∀ {f x at_ p acc : Nat}, num x <+: b.drop at_ → at_ + (num x).length ≤ e → (num x).length ≤ f → acc + x * p ≤ 1099511627776 → 
    par2 b e f at_ p acc = (acc + x * p, at_ + (num x).length)
  | 0, x, at_, p, acc, hp, he, hf, hb => by have := num_pos x; omega
  | f + 1, x, at_, p, acc, hp, he, hf, hb => by
    have hpos := num_pos x
    rw [par2, if_pos (by omega)]
    obtain ⟨rest, hr⟩ := hp
    by_cases hx : x < 128
    · have hn : num x = [UInt8.ofNat x] := by rw [num, if_pos hx]
      rw [hn] at hr ⊢
      have hg : b[at_]? = some (UInt8.ofNat x) := by
        have := congrArg (fun l => l[0]?) hr
        simp only [List.getElem?_drop, Nat.add_zero] at this
        rw [← this]; rfl
      rw [hg]
      have h1 : (UInt8.ofNat x).toNat = x := by simp; omega
      simp only [h1]
      rw [if_pos (.inl hx), Nat.mod_eq_of_lt hx]
      rfl
    · have hn : num x = UInt8.ofNat (x % 128 + 128) :: num (x / 128) := by rw [num, if_neg hx]
      rw [hn] at hr he hf ⊢
      simp only [List.length_cons] at he hf ⊢
      have hg : b[at_]? = some (UInt8.ofNat (x % 128 + 128)) := by
        have := congrArg (fun l => l[0]?) hr
        simp only [List.getElem?_drop, Nat.add_zero] at this
        rw [← this]; rfl
      have hd : b.drop (at_ + 1) = num (x / 128) ++ rest := by
        have := congrArg (fun l => l.drop 1) hr
        simp only [List.drop_drop] at this
        rw [← this]; rfl
      rw [hg]
      have h1 : (UInt8.ofNat (x % 128 + 128)).toNat = x % 128 + 128 := by simp; omega
      have hdiv : x = x % 128 + 128 * (x / 128) := by omega
      have hsplit : x * p = (x % 128) * p + (x / 128) * (p * 128) := by
        have h3 : x * p = (x % 128 + 128 * (x / 128)) * p := by rw [← hdiv]
        rw [h3, Nat.add_mul, Nat.mul_comm 128, Nat.mul_assoc, Nat.mul_comm 128]
      have h128 : p * 128 ≤ x * p := by rw [Nat.mul_comm]; exact Nat.mul_le_mul_right _ (by omega)
      simp only [h1]
      rw [if_neg (by omega)]
      have h2 : (x % 128 + 128) % 128 = x % 128 := by omega
      rw [h2, par2_num ⟨rest, hd.symm⟩ (by omega) (by omega) (by omega)]
      simp only [Prod.mk.injEq]
      constructor
      · rw [hsplit, Nat.add_assoc]
      · omega
theorem parN2_enc {b : List UInt8} {n : Nt} (hg : goodN n) (hp : encB n <+: b) {e : Nat} (he : e = (bodyB n).length + 1) : ∀ j, j ≤ (argsN n).length → parN2 b e j = (((argsN n).take j).map Int.toNat ++ List.replicate (3 - j) 0, 2 + (numsB ((argsN n).take j)).length)
  | 0, _ => by simp [parN2, numsB]
  | j + 1, hj => by
    have ih := parN2_enc hg hp he j (by omega)
    have hal : (argsN n).length ≤ 3 := by simp [argsN]; omega
    have hjl : j < (argsN n).length := by omega
    obtain ⟨x, hx, hx2⟩ : ∃ x : Nat, (argsN n)[j] = (x : Int) ∧ x ≤ 2147483647 := by
      have := args_in hg _ (List.getElem_mem hjl)
      exact ⟨(argsN n)[j].toNat, by omega, by omega⟩
    have htl : (((argsN n).take j).map Int.toNat).length = j := by simp; omega
    simp only [parN2, ih]
    have hget : (((argsN n).take j).map Int.toNat ++ List.replicate (3 - j) (0 : Nat))[j]? = some 0 := by
      rw [List.getElem?_append_right (by omega), htl, Nat.sub_self]
      rw [List.getElem?_replicate, if_pos (by omega)]
    have hset : (((argsN n).take j).map Int.toNat ++ List.replicate (3 - j) (0 : Nat)).set j x = ((argsN n).take (j + 1)).map Int.toNat ++ List.replicate (3 - (j + 1)) 0 := by
      rw [List.set_append_right _ _ (by omega), htl, Nat.sub_self, show 3 - j = (3 - (j + 1)) + 1 by omega, List.replicate_succ, List.set_cons_zero, List.take_add_one, List.getElem?_eq_getElem hjl, hx]
      simp
    have hsplit : numsB (argsN n) = numsB ((argsN n).take j) ++ (num x ++ numsB ((argsN n).drop (j + 1))) := by
      have h1 : argsN n = (argsN n).take (j + 1) ++ (argsN n).drop (j + 1) := (List.take_append_drop _ _).symm
      have h2 : numsB (argsN n) = numsB ((argsN n).take (j + 1)) ++ numsB ((argsN n).drop (j + 1)) := by
        conv => lhs; rw [h1]
        simp only [numsB, List.flatMap_append]
      rw [h2, numsB_take hjl hx, List.append_assoc]
    have hdrop : num x <+: b.drop (2 + (numsB ((argsN n).take j)).length) := by
      obtain ⟨rest, hr⟩ := hp
      rw [← hr]
      simp only [encB, sealB, preB, bodyB, List.cons_append, List.append_assoc]
      rw [show 2 + (numsB ((argsN n).take j)).length = (numsB ((argsN n).take j)).length + 1 + 1 by omega]
      simp only [List.drop_succ_cons]
      rw [hsplit, List.append_assoc, List.drop_left, List.append_assoc]
      exact ⟨_, rfl⟩
    have hlen : (numsB (argsN n)).length = (numsB ((argsN n).take j)).length + ((num x).length + (numsB ((argsN n).drop (j + 1))).length) := by rw [hsplit]; simp
    have hbl : (bodyB n).length = (numsB (argsN n)).length + 1 := by simp [bodyB]
    have h5 := num_len x 5 (by omega) (by omega)
    have hpar := par2_num (acc := 0) (p := 1) (f := 6) (e := e) hdrop (by omega) (by omega) (by omega)
    simp only [Nat.mul_one, Nat.zero_add] at hpar
    rw [hget]
    simp only [Option.getD_some]
    rw [hpar, hset, numsB_take hjl hx]
    simp only [List.length_append, Prod.mk.injEq, true_and]
    omega
theorem cand2_enc {b : List UInt8} {n : Nt} (hg : goodN n) (hp : encB n <+: b) : ∃ x y r, b = x :: y :: r ∧ 5 ≤ b.length ∧ x.toNat + 3 ≤ b.length ∧ encB n = b.take (x.toNat + 3) ∧ cand2 b y.toNat (x.toNat + 1) (usesZ y.toNat).toNat = n := by
  obtain ⟨x, y, r, h1, h2, h3, h4, h5⟩ := cand_enc hg hp
  obtain ⟨u, hu, hu1, hu3, hk1, hk8⟩ := good_uses hg
  have hk : (y.toNat : Int) = n.k := by
    have := congrArg Nt.k h5
    exact this
  have hb5 : 5 ≤ (encB n).length := by
    rw [enc_len]
    have h6 := args_len hg
    rw [hu, Int.toNat_natCast] at h6
    match ha : argsN n, h6 with
    | a :: r, h6 => 
      have := num_pos a.toNat
      simp only [numsB, List.flatMap_cons, List.length_append]; omega
    | [], h6 => simp at h6; omega
  refine ⟨x, y, r, h1, Nat.le_trans hb5 hp.length_le, h3, h4, ?_⟩
  have hN := parN2_enc hg hp rfl u (by rw [args_len hg, hu]; omega)
  rw [hk, h2, hu]
  simp only [cand2]
  rw [Int.toNat_natCast, hN]
  have hal : argsN n = [n.a, n.b, n.c].take u := by simp [argsN, hu]
  obtain ⟨ga, gb, gc, _⟩ := hg
  unfold within at ga gb gc
  have hfull : ((argsN n).take u).map Int.toNat ++ List.replicate (3 - u) (0 : Nat) = [n.a.toNat, n.b.toNat, n.c.toNat] := by
    rw [hal, List.take_take, Nat.min_self]
    have : u = 1 ∨ u = 2 ∨ u = 3 := by omega
    rcases this with rfl | rfl | rfl
    · have h1 : n.b = 0 := by omega
      have h2 : n.c = 0 := by omega
      simp [h1, h2]
    · have h2 : n.c = 0 := by omega
      simp [h2]
    · simp
  rw [hfull]
  simp only [List.getElem?_cons_zero, List.getElem?_cons_succ, Option.getD_some]
  rw [Int.toNat_of_nonneg ga.1, Int.toNat_of_nonneg gb.1, Int.toNat_of_nonneg gc.1]
theorem first_spec (t : TabR T) (b : List UInt8) (hb : b.length ≤ 1000000000) : Ret2 T 0 i_stillageref18_first [.fz 1 (b.map c8)] [] (fun v h' => h' = [] ∧ FirR b v) := by
  by_cases hbad : ∃ x y r, b = x :: y :: r ∧ 5 ≤ b.length ∧ x.toNat + 3 ≤ b.length
  · obtain ⟨x, y, r, rfl, hx, hl⟩ := hbad
    refine first_walk t x y r hb hx hl (fun hg he he2 => ⟨rfl, .inl ⟨_, hg, ?_, rfl⟩⟩) (fun hn => ⟨rfl, .inr ⟨fun n hg hp => hn ?_, rfl⟩⟩)
    · rw [he2]; exact List.take_prefix _ _
    · obtain ⟨x', y', r', h1, h2, h3, h4, h5⟩ := cand2_enc hg hp
      cases h1
      rw [h5]
      exact ⟨hg, h4⟩
  · have hno : ∀ n, goodN n → ¬ encB n <+: b := fun n hg hp => by
      obtain ⟨x, y, r, h1, h2, h3, _⟩ := cand2_enc hg hp
      exact hbad ⟨x, y, r, h1, h2, h3⟩
    refine Ret2_fnv t.refFirst rfl rfl ?_
    by_cases h2 : b.length < 5
    · have h2' : ((b.length : Nat) : Int) < 5 := by omega
      (repeat' with_reducible first | refine thn2_nrm ?_ | refine thn2_ret ?_ | refine thn2_ex ?_ | refine blk2_nrm ?_ | refine blk2_ret ?_ | refine blk2_at ?_ | (refine blk2_ex ?_ ?_; decide) | refine W2_sas ?_ | refine W2_ss ?_ | refine W2_sret ?_ | refine W2_sexit ?_ | ((first | apply W2_srl | apply W2_srdl | apply W2_runl | apply W2_rundl); (conv => lhs; simp only [go_sem, ibin, ishift, h2']) <;> rfl) | ((first | apply W2_sct | apply W2_t2); (conv => lhs; simp only [go_sem]) <;> rfl; rfl) | ((first | apply W2_scf | apply W2_f2); (conv => lhs; simp only [go_sem]) <;> rfl; rfl) | refine W2_ret ?_ | refine W2_exit ?_ | refine W2_skip ?_ | refine W2_seq ?_ | refine W2_block ?_)
      refine ⟨by first | exact .inr rfl | exact .inl rfl, _, _, (by (conv => lhs; simp only [go_sem, ibin, ishift]) <;> with_reducible rfl), (by (conv => lhs; simp only [go_sem, ibin, ishift]) <;> with_reducible rfl), ?_⟩
      refine ⟨[], by decide, rfl, ?_⟩
      exact ⟨rfl, .inr ⟨hno, rfl⟩⟩
    · obtain ⟨x, y, r, rfl⟩ : ∃ x y r, b = x :: y :: r := by
        match b, h2 with
        | x :: y :: r, _ => exact ⟨x, y, r, rfl⟩
        | [_], h => simp at h
        | [], h => simp at h
      have hxl := x.toNat_lt
      have f1 : ¬ (((x :: y :: r).length : Nat) : Int) < 5 := by omega
      have f2 : IntKind.i64.wrap ((x.toNat : Int) + 3) = ((x.toNat + 3 : Nat) : Int) := by rw [wi _ (by omega) (by omega)]; omega
      generalize hB : x :: y :: r = b at *
      have g0 : b[0]? = some x := by rw [← hB]; rfl
      have hc : b.length < x.toNat + 3 := by
        apply Decidable.byContradiction
        intro h4
        exact hbad ⟨x, y, r, hB.symm, by omega, by omega⟩
      (repeat' with_reducible first |apply qA|apply qB|apply qC|apply qD|apply qE|apply qF|(apply qG;decide)|apply qH|apply qI|apply qJ|apply qK|((first|apply qL|apply qM|apply qN|apply qO|((first|apply qP|apply qQ);decide +kernel));(conv=>lhs;simp only[go_sem, ibin, ishift, g0, c8, f1, f2, w64_8, id_eq, hc])<;>rfl)|((first|apply qR|apply qS);(conv=>lhs;simp only[go_sem])<;>rfl;rfl)|((first|apply qT|apply qU);(conv=>lhs;simp only[go_sem])<;>rfl;rfl)|apply qV|apply qW|apply qX|apply qY|apply qZ)
      refine ⟨by first | exact .inr rfl | exact .inl rfl, _, _, (by (conv => lhs; simp only [go_sem, ibin, ishift]) <;> with_reducible rfl), (by (conv => lhs; simp only [go_sem, ibin, ishift]) <;> with_reducible rfl), ?_⟩
      refine ⟨[], by decide, rfl, ?_⟩
      exact ⟨rfl, .inr ⟨hno, rfl⟩⟩
theorem refread_spec (t : TabR T) (b : List UInt8) (hb : b.length ≤ 1000000) : Ret2 T 0 i_stillageref18_Read [.fz 1 (b.map c8)] [] (fun v h' =>
    ∃ l, ReadR b l ∧ v = .tup [.sl 4 0 0 l.length none, .i .i64 (encsB l).length] ∧ h' = [some (.arr 4 (l.map cN))]) := by
  refine Ret2_fnv t.refRead rfl rfl ?_
  refine W2_sra (by (conv => lhs; simp only [go_sem, ibin, ishift]) <;> with_reducible rfl) (W2_sra (by (conv => lhs; simp only [go_sem, ibin, ishift]) <;> with_reducible rfl) ?_)
  refine W2.wnil 4 4 rfl (by (conv => lhs; simp only [go_sem, ibin, ishift]) <;> with_reducible rfl) (by (conv => lhs; simp only [go_sem, ibin, ishift]) <;> with_reducible rfl) ?_
  (repeat' with_reducible first |apply qA|apply qB|apply qC|apply qD|apply qE|apply qF|(apply qG;decide)|apply qH|apply qI|apply qJ|apply qK|((first|apply qL|apply qM|apply qN|apply qO|((first|apply qP|apply qQ);decide +kernel));(conv=>lhs;simp only[go_sem, ibin, ishift])<;>rfl)|((first|apply qR|apply qS);(conv=>lhs;simp only[go_sem])<;>rfl;rfl)|((first|apply qT|apply qU);(conv=>lhs;simp only[go_sem])<;>rfl;rfl)|apply qV|apply qW|apply qX|apply qY|apply qZ)
  refine W2_loopv (fun m e h => ∃ l, (encsB l).length + m = b.length ∧ 4 * l.length ≤ (encsB l).length ∧ (∀ n ∈ l, goodN n) ∧ encsB l <+: b ∧ e = [(0, .fz 1 (b.map c8)), (4, .sl 4 0 0 l.length none), (5, .i .i64 (encsB l).length)] ∧ h = [some (.arr 4 (l.map cN))]) b.length ⟨[], by simp [encsB], by simp, by simp, by simp [encsB], rfl, rfl⟩ ?_
  rintro m e h ⟨l, hm, h4, hgood, hpre, rfl, rfl⟩
  have hat : ((encsB l).length : Int) ≤ (b.length : Nat) := by omega
  (repeat' with_reducible first |apply qA|apply qB|apply qC|apply qD|apply qE|apply qF|(apply qG;decide)|apply qH|apply qI|apply qJ|apply qK|((first|apply qL|apply qM|apply qN|apply qO|((first|apply qP|apply qQ);decide +kernel));(conv=>lhs;simp only[go_sem, ibin, ishift])<;>rfl)|((first|apply qR|apply qS);(conv=>lhs;simp only[go_sem])<;>rfl;rfl)|((first|apply qT|apply qU);(conv=>lhs;simp only[go_sem])<;>rfl;rfl)|apply qV|apply qW|apply qX|apply qY|apply qZ)
  (with_reducible((first|apply pA|apply pB|apply pC|apply pD|apply pE|((first|apply pF|apply pG);decide +kernel));(conv=>lhs;simp only[go_sem, ibin, ishift, hat])<;>rfl))
  refine CK_pure (first_spec t (b.drop (encsB l).length) (by simp; omega)) rfl ?_
  rintro v h' ⟨rfl, hd⟩
  rcases hd with ⟨n, hg, hp, rfl⟩ | ⟨hno, rfl⟩
  · have hne := encB_le hg
    have hle := hp.length_le
    rw [List.length_drop] at hle
    have hs : encsB (l ++ [n]) = encsB l ++ encB n := by simp [encsB]
    have hroom : (l.length + 1) * 32 ≤ room := by simp only [room]; omega
    have e1 : IntKind.i64.wrap (((encsB l).length : Int) + ((encB n).length : Nat)) = ((encsB (l ++ [n])).length : Nat) := by
      rw [hs, List.length_append, wi _ (by omega) (by omega)]; omega
    have e2 : decide (((encB n).length : Int) = 0) = false := decide_eq_false (by omega)
    (with_reducible((first|apply WO2_finw|apply WO2_fina);(conv=>lhs;simp only[go_sem, ibin, ishift, cN])<;>rfl))
    (repeat' with_reducible first |apply qA|apply qB|apply qC|apply qD|apply qE|apply qF|(apply qG;decide)|apply qH|apply qI|apply qJ|apply qK|((first|apply qL|apply qM|apply qN|apply qO|((first|apply qP|apply qQ);decide +kernel));(conv=>lhs;simp only[go_sem, ibin, ishift, hroom, e1, e2])<;>rfl)|((first|apply qR|apply qS);(conv=>lhs;simp only[go_sem])<;>rfl;rfl)|((first|apply qT|apply qU);(conv=>lhs;simp only[go_sem])<;>rfl;rfl)|apply qV|apply qW|apply qX|apply qY|apply qZ)
    refine ⟨[3], by decide, rfl, ?_⟩
    refine ⟨b.length - (encsB (l ++ [n])).length, by rw [hs, List.length_append]; omega, l ++ [n], by rw [hs, List.length_append]; omega, by rw [hs, List.length_append, List.length_append]; simp; omega, ?_, ?_, (by (try simp only [List.map_append, List.length_append, List.map_cons, List.map_nil, List.length_cons, List.length_nil, Nat.zero_add]); rfl), (by (try simp only [List.map_append, List.length_append, List.map_cons, List.map_nil, List.length_cons, List.length_nil, Nat.zero_add]); rfl)⟩
    · intro m hm
      rcases List.mem_append.1 hm with h | h
      · exact hgood m h
      · rw [List.mem_singleton.1 h]; exact hg
    · rw [hs]
      obtain ⟨r1, h1⟩ := hpre
      obtain ⟨r2, h2⟩ := hp
      rw [← h1, List.drop_left] at h2
      exact ⟨r2, by rw [List.append_assoc, h2, h1]⟩
  · (with_reducible((first|apply WO2_finw|apply WO2_fina);(conv=>lhs;simp only[go_sem, ibin, ishift])<;>rfl))
    (repeat' with_reducible first |apply qA|apply qB|apply qC|apply qD|apply qE|apply qF|(apply qG;decide)|apply qH|apply qI|apply qJ|apply qK|((first|apply qL|apply qM|apply qN|apply qO|((first|apply qP|apply qQ);decide +kernel));(conv=>lhs;simp only[go_sem, ibin, ishift])<;>rfl)|((first|apply qR|apply qS);(conv=>lhs;simp only[go_sem])<;>rfl;rfl)|((first|apply qT|apply qU);(conv=>lhs;simp only[go_sem])<;>rfl;rfl)|apply qV|apply qW|apply qX|apply qY|apply qZ)
    refine ⟨by first | exact .inr rfl | exact .inl rfl, _, _, (by (conv => lhs; simp only [go_sem, ibin, ishift]) <;> with_reducible rfl), (by (conv => lhs; simp only [go_sem, ibin, ishift]) <;> with_reducible rfl), ?_⟩
    refine ⟨[0], by decide, rfl, ?_⟩
    exact ⟨l, ⟨hgood, hpre, hno⟩, rfl, rfl⟩
instance : DecidableEq Nt := fun x y => decidable_of_iff (x.k = y.k ∧ x.a = y.a ∧ x.b = y.b ∧ x.c = y.c) (by cases x; cases y; simp)
/-- the length of a list of notes that is looked through -/
theorem same_spec (t : TabR T) (a b : List Nt) (ha : a.length ≤ 1000000000) : Ret2 T 0 i_stillageref18_Same [.fz 4 (a.map cN), .fz 4 (b.map cN)] [] (fun v h' => v = .b (decide (a = b)) ∧ h' = []) := by
  refine Ret2_fnv t.refSame rfl rfl ?_
  (repeat' with_reducible first |apply qA|apply qB|apply qC|apply qD|apply qE|apply qF|(apply qG;decide)|apply qH|apply qI|apply qJ|apply qK|((first|apply qL|apply qM|apply qN|apply qO|((first|apply qP|apply qQ);decide +kernel));(conv=>lhs;simp only[go_sem, ibin, ishift])<;>rfl)|((first|apply qR|apply qS);(conv=>lhs;simp only[go_sem])<;>rfl;rfl)|((first|apply qT|apply qU);(conv=>lhs;simp only[go_sem])<;>rfl;rfl)|apply qV|apply qW|apply qX|apply qY|apply qZ)
  (((first | with_reducible apply W2_sc | with_reducible apply W2_cond); ((conv => lhs; simp only [go_sem]) <;> with_reducible rfl)) <;> intro hx <;> (try rw [hx]) <;> simp only [Bool.or_eq_true, Bool.and_eq_true, decide_eq_true_eq, Bool.or_eq_false_iff, Bool.and_eq_false_iff, decide_eq_false_iff_not, Bool.not_eq_true', Bool.not_eq_false', bne_iff_ne, beq_iff_eq, not_or, not_and, Decidable.not_not, ne_eq, gt_iff_lt, ge_iff_le, Int.not_lt, Int.not_le] at hx)
  · (repeat' with_reducible first |apply qA|apply qB|apply qC|apply qD|apply qE|apply qF|(apply qG;decide)|apply qH|apply qI|apply qJ|apply qK|((first|apply qL|apply qM|apply qN|apply qO|((first|apply qP|apply qQ);decide +kernel));(conv=>lhs;simp only[go_sem, ibin, ishift])<;>rfl)|((first|apply qR|apply qS);(conv=>lhs;simp only[go_sem])<;>rfl;rfl)|((first|apply qT|apply qU);(conv=>lhs;simp only[go_sem])<;>rfl;rfl)|apply qV|apply qW|apply qX|apply qY|apply qZ)
    refine ⟨by first | exact .inr rfl | exact .inl rfl, _, _, (by (conv => lhs; simp only [go_sem, ibin, ishift]) <;> with_reducible rfl), (by (conv => lhs; simp only [go_sem, ibin, ishift]) <;> with_reducible rfl), ?_⟩
    refine ⟨[], by decide, rfl, ?_⟩
    exact ⟨by rw [decide_eq_false (fun e => hx (by rw [e]))]; rfl, rfl⟩
  · have hl : a.length = b.length := by omega
    (repeat' with_reducible first |apply qA|apply qB|apply qC|apply qD|apply qE|apply qF|(apply qG;decide)|apply qH|apply qI|apply qJ|apply qK|((first|apply qL|apply qM|apply qN|apply qO|((first|apply qP|apply qQ);decide +kernel));(conv=>lhs;simp only[go_sem, ibin, ishift])<;>rfl)|((first|apply qR|apply qS);(conv=>lhs;simp only[go_sem])<;>rfl;rfl)|((first|apply qT|apply qU);(conv=>lhs;simp only[go_sem])<;>rfl;rfl)|apply qV|apply qW|apply qX|apply qY|apply qZ)
    refine W2_loopw (fun m e h => ∃ j, j + m = a.length ∧ (∀ i, i < j → a[i]? = b[i]?) ∧ e = [(0, .fz 4 (a.map cN)), (1, .fz 4 (b.map cN)), (12, .i .i64 a.length), (13, .i .i64 j)] ∧ h = []) a.length ⟨0, by omega, fun i h => by omega, rfl, rfl⟩ ?_
    rintro m e h ⟨j, hj, heq, rfl, rfl⟩
    (repeat' with_reducible first |apply qA|apply qB|apply qC|apply qD|apply qE|apply qF|(apply qG;decide)|apply qH|apply qI|apply qJ|apply qK|((first|apply qL|apply qM|apply qN|apply qO|((first|apply qP|apply qQ);decide +kernel));(conv=>lhs;simp only[go_sem, ibin, ishift])<;>rfl)|((first|apply qR|apply qS);(conv=>lhs;simp only[go_sem])<;>rfl;rfl)|((first|apply qT|apply qU);(conv=>lhs;simp only[go_sem])<;>rfl;rfl)|apply qV|apply qW|apply qX|apply qY|apply qZ)
    (((first | with_reducible apply W2_sc | with_reducible apply W2_cond); ((conv => lhs; simp only [go_sem]) <;> with_reducible rfl)) <;> intro hx <;> (try rw [hx]) <;> simp only [Bool.or_eq_true, Bool.and_eq_true, decide_eq_true_eq, Bool.or_eq_false_iff, Bool.and_eq_false_iff, decide_eq_false_iff_not, Bool.not_eq_true', Bool.not_eq_false', bne_iff_ne, beq_iff_eq, not_or, not_and, Decidable.not_not, ne_eq, gt_iff_lt, ge_iff_le, Int.not_lt, Int.not_le] at hx)
    · have hja : j < a.length := by omega
      have hjb : j < b.length := by omega
      have ga := List.getElem?_eq_getElem hja
      have gb := List.getElem?_eq_getElem hjb
      generalize a[j] = x at ga
      generalize b[j] = y at gb
      (repeat' with_reducible first |apply qA|apply qB|apply qC|apply qD|apply qE|apply qF|(apply qG;decide)|apply qH|apply qI|apply qJ|apply qK|((first|apply qL|apply qM|apply qN|apply qO|((first|apply qP|apply qQ);decide +kernel));(conv=>lhs;simp only[go_sem, ibin, ishift, ga, gb, cN])<;>rfl)|((first|apply qR|apply qS);(conv=>lhs;simp only[go_sem])<;>rfl;rfl)|((first|apply qT|apply qU);(conv=>lhs;simp only[go_sem])<;>rfl;rfl)|apply qV|apply qW|apply qX|apply qY|apply qZ)
      (((first | with_reducible apply W2_sc | with_reducible apply W2_cond); ((conv => lhs; simp only [go_sem]) <;> with_reducible rfl)) <;> intro hx <;> (try rw [hx]) <;> simp only [Bool.or_eq_true, Bool.and_eq_true, decide_eq_true_eq, Bool.or_eq_false_iff, Bool.and_eq_false_iff, decide_eq_false_iff_not, Bool.not_eq_true', Bool.not_eq_false', bne_iff_ne, beq_iff_eq, not_or, not_and, Decidable.not_not, ne_eq, gt_iff_lt, ge_iff_le, Int.not_lt, Int.not_le] at hx)
      · (repeat' with_reducible first |apply qA|apply qB|apply qC|apply qD|apply qE|apply qF|(apply qG;decide)|apply qH|apply qI|apply qJ|apply qK|((first|apply qL|apply qM|apply qN|apply qO|((first|apply qP|apply qQ);decide +kernel));(conv=>lhs;simp only[go_sem, ibin, ishift])<;>rfl)|((first|apply qR|apply qS);(conv=>lhs;simp only[go_sem])<;>rfl;rfl)|((first|apply qT|apply qU);(conv=>lhs;simp only[go_sem])<;>rfl;rfl)|apply qV|apply qW|apply qX|apply qY|apply qZ)
        refine ⟨by first | exact .inr rfl | exact .inl rfl, _, _, (by (conv => lhs; simp only [go_sem, ibin, ishift]) <;> with_reducible rfl), (by (conv => lhs; simp only [go_sem, ibin, ishift]) <;> with_reducible rfl), ?_⟩
        refine ⟨[], by decide, rfl, ?_⟩
        have hne : a ≠ b := fun e => by
          subst e
          rw [ga] at gb
          cases gb
          simp at hx
        exact ⟨by rw [decide_eq_false hne]; rfl, rfl⟩
      · have hxy : x = y := by
          cases x; cases y
          simp only [Nt.mk.injEq]
          exact hx
        (repeat' with_reducible first |apply qA|apply qB|apply qC|apply qD|apply qE|apply qF|(apply qG;decide)|apply qH|apply qI|apply qJ|apply qK|((first|apply qL|apply qM|apply qN|apply qO|((first|apply qP|apply qQ);decide +kernel));(conv=>lhs;simp only[go_sem, ibin, ishift, wS (show j < 9223372036854775807 by omega)])<;>rfl)|((first|apply qR|apply qS);(conv=>lhs;simp only[go_sem])<;>rfl;rfl)|((first|apply qT|apply qU);(conv=>lhs;simp only[go_sem])<;>rfl;rfl)|apply qV|apply qW|apply qX|apply qY|apply qZ)
        refine ⟨_, _, .refl, ?_⟩
        refine ⟨a.length - (j + 1), by omega, j + 1, by omega, fun i hi => ?_, rfl, rfl⟩
        by_cases hij : i = j
        · subst hij; rw [ga, gb, hxy]
        · exact heq i (by omega)
    · have : j = a.length := by omega
      subst this
      (repeat' with_reducible first |apply qA|apply qB|apply qC|apply qD|apply qE|apply qF|(apply qG;decide)|apply qH|apply qI|apply qJ|apply qK|((first|apply qL|apply qM|apply qN|apply qO|((first|apply qP|apply qQ);decide +kernel));(conv=>lhs;simp only[go_sem, ibin, ishift])<;>rfl)|((first|apply qR|apply qS);(conv=>lhs;simp only[go_sem])<;>rfl;rfl)|((first|apply qT|apply qU);(conv=>lhs;simp only[go_sem])<;>rfl;rfl)|apply qV|apply qW|apply qX|apply qY|apply qZ)
      refine ⟨by first | exact .inr rfl | exact .inl rfl, _, _, (by (conv => lhs; simp only [go_sem, ibin, ishift]) <;> with_reducible rfl), (by (conv => lhs; simp only [go_sem, ibin, ishift]) <;> with_reducible rfl), ?_⟩
      refine ⟨[], by decide, rfl, ?_⟩
      have : a = b := by
        apply List.ext_getElem?
        intro i
        by_cases hi : i < a.length
        · exact heq i hi
        · rw [List.getElem?_eq_none (by omega), List.getElem?_eq_none (by omega)]
      exact ⟨by rw [decide_eq_true this]; rfl, rfl⟩
end Go.Proofs.Ytfmkomjflhifnaa.Ab
