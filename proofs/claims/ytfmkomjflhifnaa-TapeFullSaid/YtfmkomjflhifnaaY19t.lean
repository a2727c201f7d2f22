/- Chapter 19: TapeFull. -/
import Derived.Test.YtfmkomjflhifnaaY19s
namespace Go.Proofs.Ytfmkomjflhifnaa.Ab
open Go
set_option linter.unusedVariables false
set_option linter.unusedSimpArgs false
variable {T : AT}
def n8 : Nt := ⟨1, 16384, 1, 0⟩
theorem n8_good : goodN n8 := by decide
theorem n8_len : (encB n8).length = 8 := by decide +kernel
theorem n8_encs : ∀ m : Nat, (encsB (List.replicate m n8)).length = 8 * m
  | 0 => rfl
  | m + 1 => by
    rw [List.replicate_succ, encs_cons, List.length_append, n8_encs m, n8_len]; omega
theorem n8_all (m : Nat) : ∀ x ∈ List.replicate m n8, goodN x := fun x hx => by rw [(List.mem_replicate.1 hx).2]; exact n8_good
theorem append_full {r : Rt} (hd : r.dead = false) {n : Nat} {l : List Nt} (hl : ∀ x ∈ l, goodN x) (hn : n = r.now.length) (h : 65536 < r.now.length + (encsB l).length) : r.append n l = (r, 5) := by
  rw [Rt.append, if_neg (by rw [hd]; decide), if_neg (fun h => h hl), if_neg (by omega), if_pos h]
theorem compact_full {r : Rt} (hd : r.dead = false) {l : List Nt} (hl : ∀ x ∈ l, goodN x) (h : 65536 < (encsB l).length) : r.compact l = (r, 5) := by
  rw [Rt.compact, if_neg (by rw [hd]; decide), if_neg (fun h => h hl), if_pos h]
theorem umod4 (x : Int) (k : Nat) (hk : 0 < k) (hk2 : k ≤ 100000) : ∃ v : Nat, IntKind.i64.wrap ((IntKind.u64.wrap x).tmod (k : Int)) = (v : Int) ∧ v < k := by
  have e : IntKind.u64.wrap x = x % 18446744073709551616 := rfl
  have h0 : 0 ≤ x % 18446744073709551616 := Int.emod_nonneg _ (by decide)
  have h1 := Int.emod_nonneg (x % 18446744073709551616) (show (k : Int) ≠ 0 by omega)
  have h2 := Int.emod_lt_of_pos (x % 18446744073709551616) (show (0 : Int) < k by omega)
  refine ⟨(x % 18446744073709551616 % (k : Int)).toNat, ?_, by omega⟩
  rw [e, Int.tmod_eq_emod_of_nonneg h0, wi _ (by omega) (by omega)]
  omega
set_option maxHeartbeats 2000000 in
theorem tapeFull_law (c : TabL19 T) (hT : T i_stillagelaw19_TapeFull = some (.fn c_stillagelaw19_TapeFull)) (n : Int) : Ret2 T 0 i_stillagelaw19_TapeFull [.i .i64 n] [] (fun v h' => v = .b true) := by
  refine Ret2_fnv hT rfl rfl ?_
  (repeat' with_reducible first |apply qA|apply qB|apply qC|apply qD|apply qE|apply qF|(apply qG;decide)|apply qH|apply qI|apply qJ|apply qK|((first|apply qL|apply qM|apply qN|apply qO|((first|apply qP|apply qQ);decide +kernel));(conv=>lhs;simp only[go_sem, ibin, ishift])<;>rfl)|((first|apply qR|apply qS);(conv=>lhs;simp only[go_sem])<;>rfl;rfl)|((first|apply qT|apply qU);(conv=>lhs;simp only[go_sem])<;>rfl;rfl)|apply qV|apply qW|apply qX|apply qY|apply qZ)
  (with_reducible((first|apply pA|apply pB|apply pC|apply pD|apply pE|((first|apply pF|apply pG);decide +kernel));(conv=>lhs;simp only[go_sem, ibin, ishift])<;>rfl))
  refine CK_pure (new_spec c.toTabT) rfl ?_
  rintro v h' ⟨rfl, rfl⟩
  unfold Tp.h Tp.o
  have hS0 := Sim.new
  have hr0 : Rt.new.dead = false ∧ Rt.new.bud = -1 ∧ Rt.new.now = [] := ⟨rfl, rfl, rfl⟩
  generalize Tp.new = p0 at hS0 ⊢
  generalize Rt.new = r0 at hS0 hr0
  obtain ⟨k, hk, hk1⟩ := umod4 n 3 (by decide) (by decide)
  have hk : IntKind.i64.wrap ((IntKind.u64.wrap n).tmod 3) = (k : Int) := hk
  (with_reducible((first|apply WO2_finw|apply WO2_fina);(conv=>lhs;simp only[go_sem, ibin, ishift])<;>rfl))
  (repeat' with_reducible first |apply qA|apply qB|apply qC|apply qD|apply qE|apply qF|(apply qG;decide)|apply qH|apply qI|apply qJ|apply qK|((first|apply qL|apply qM|apply qN|apply qO|((first|apply qP|apply qQ);decide +kernel));(conv=>lhs;simp only[go_sem, ibin, ishift])<;>rfl)|((first|apply qR|apply qS);(conv=>lhs;simp only[go_sem])<;>rfl;rfl)|((first|apply qT|apply qU);(conv=>lhs;simp only[go_sem])<;>rfl;rfl)|apply qV|apply qW|apply qX|apply qY|apply qZ)
  (with_reducible((first|apply pA|apply pB|apply pC|apply pD|apply pE|((first|apply pF|apply pG);decide +kernel));(conv=>lhs;simp only[go_sem, ibin, ishift])<;>rfl))
  refine CK_pure (always_spec c.awake) rfl ?_
  rintro v h' ⟨rfl, rfl⟩
  (with_reducible((first|apply WO2_finw|apply WO2_fina);(conv=>lhs;simp only[go_sem, ibin, ishift])<;>rfl))
  (repeat' with_reducible first |apply qA|apply qB|apply qC|apply qD|apply qE|apply qF|(apply qG;decide)|apply qH|apply qI|apply qJ|apply qK|((first|apply qL|apply qM|apply qN|apply qO|((first|apply qP|apply qQ);decide +kernel));(conv=>lhs;simp only[go_sem, ibin, ishift, hk])<;>rfl)|((first|apply qR|apply qS);(conv=>lhs;simp only[go_sem])<;>rfl;rfl)|((first|apply qT|apply qU);(conv=>lhs;simp only[go_sem])<;>rfl;rfl)|apply qV|apply qW|apply qX|apply qY|apply qZ)
  refine W2.wnil 4 4 rfl (by (conv => lhs; simp only [go_sem, ibin, ishift]) <;> with_reducible rfl) (by (conv => lhs; simp only [go_sem, ibin, ishift]) <;> with_reducible rfl) ?_
  refine W2_loopu (fun mm u g => ∃ (j : Nat) (B : List Nt), j + mm = 8192 ∧ B = List.replicate j n8 ∧ u = [(4, .sl 4 3 0 B.length none), (5, .i .i64 j)] ∧ g = [(3, .arr 4 (B.map cN))]) 8192 ⟨0, [], by omega, rfl, rfl, rfl⟩ rfl rfl ?_
  rintro mm u g ⟨j, B, hj, hB, rfl, rfl⟩
  intro e1 h1 he1 hh1; simp only [egd, supE, hgd, supH, Nat.reduceEqDiff, Nat.reduceAdd, if_true, if_false, reduceIte] at he1 hh1; subst he1; subst hh1
  have hBl : B.length = j := by rw [hB, List.length_replicate]
  by_cases hjl : j < 8192
  · have zj : decide ((j : Int) < 8192) = true := decide_eq_true (by omega)
    have hroom : (B.length + 1) * 32 ≤ room := by simp only [room]; omega
    have hBt : B.take B.length = B := List.take_length
    have wj := wS (show j < 9223372036854775807 by omega)
    (repeat' with_reducible first |apply qA|apply qB|apply qC|apply qD|apply qE|apply qF|(apply qG;decide)|apply qH|apply qI|apply qJ|apply qK|((first|apply qL|apply qM|apply qN|apply qO|((first|apply qP|apply qQ);decide +kernel));(conv=>lhs;simp only[go_sem, ibin, ishift, zj, hroom, hBt, Nat.le_refl, wj])<;>rfl)|((first|apply qR|apply qS);(conv=>lhs;simp only[go_sem])<;>rfl;rfl)|((first|apply qT|apply qU);(conv=>lhs;simp only[go_sem])<;>rfl;rfl)|apply qV|apply qW|apply qX|apply qY|apply qZ)
    refine ⟨[0, 1, 2, 5], by decide, rfl, ?_⟩
    rw [show B.map cN ++ [[PV.i .i64 1, PV.i .i64 16384, PV.i .i64 1, PV.i .i64 0]] = (B ++ [n8]).map cN by rw [List.map_append]; rfl, show B.length + 1 = (B ++ [n8]).length by simp]
    exact ⟨8192 - (j + 1), _, _, by omega, ⟨j + 1, B ++ [n8], by omega, by rw [hB, List.replicate_succ'], rfl, rfl⟩, rfl, (by first | rfl | ((conv => lhs; simp only [go_sem, ibin, ishift]) <;> rfl))⟩
  have zj : decide ((j : Int) < 8192) = false := decide_eq_false (by omega)
  have hj8 : j = 8192 := by omega
  rw [hj8] at hB hBl
  have htl : ∀ m, m ≤ 8192 → (B.take m).length = m := fun m hm => by rw [List.length_take, hBl]; omega
  have htt : ∀ m, m ≤ 8192 → B.take (B.take m).length = B.take m := fun m hm => by rw [htl m hm]
  have htg : ∀ m, ∀ x ∈ B.take m, goodN x := fun m x hx => n8_all 8192 x (by rw [← hB]; exact List.mem_of_mem_take hx)
  have hte : ∀ m, m ≤ 8192 → (encsB (B.take m)).length = 8 * m := fun m hm => by rw [hB, List.take_replicate, Nat.min_eq_left hm, n8_encs]
  have hBg : ∀ x ∈ B, goodN x := fun x hx => n8_all 8192 x (by rw [← hB]; exact hx)
  have hBe : (encsB B).length = 65536 := by rw [hB, n8_encs]
  have hB0 : B[0]? = some n8 := by rw [hB, List.getElem?_replicate]; rfl
  have w1 : IntKind.i64.wrap (8192 - (k : Int)) = ((8192 - k : Nat) : Int) := by rw [wi _ (by omega) (by omega)]; omega
  have b1 : (0 : Int) ≤ ((8192 - k : Nat) : Int) := by omega
  have b2 : ((8192 - k : Nat) : Int) ≤ (B.length : Int) := by omega
  have b3 : 8192 - k ≤ B.length := by omega
  have c1 : (1 : Int) ≤ (B.length : Int) := by omega
  have c2 : (2 : Int) ≤ (B.length : Int) := by omega
  have c3 : 1 ≤ B.length := by omega
  have c4 : 2 ≤ B.length := by omega
  have hnow0 : p0.now = [] := hS0.now.trans hr0.2.2
  -- all but k
  have ha1 := appendL_spec c.toTabT p0 [] (by rw [hnow0]; exact readR_encs (l := []) (by simp)) (by rw [hnow0]; exact Nat.zero_le _) (B.take (8192 - k)) B (some B.length) (htt _ (by omega)) (by rw [htl _ (by omega)]; omega)
  rw [htl _ (by omega)] at ha1
  have hq := hS0.append (encsB []).length (B.take (8192 - k))
  rw [append_free hr0.1 hr0.2.1 (htg _) (by rw [hr0.2.2]; rfl) (by rw [hr0.2.2, hte _ (by omega)]; simp only [List.length_nil]; omega), hr0.2.2, List.nil_append] at hq
  generalize p0.append (encsB []).length (B.take (8192 - k)) = q at hq ha1
  obtain ⟨p1, e⟩ := q
  simp only at hq ha1
  obtain ⟨rfl, hS1⟩ := hq
  have hn1 : p1.now = encsB (B.take (8192 - k)) := hS1.now
  have hr1 : ReadR p1.now (B.take (8192 - k)) := by rw [hn1]; exact readR_encs (htg _)
  have hl1 : p1.now.length = 65536 - 8 * k := by rw [hn1, hte _ (by omega)]; omega
  have hs1 := size_spec c.toTabT p1
  rw [hl1] at hs1
  have w2 : IntKind.i64.wrap (8 * (k : Int)) = ((8 * k : Nat) : Int) := by rw [wi _ (by omega) (by omega)]; omega
  have w3 : IntKind.i64.wrap (65536 - ((8 * k : Nat) : Int)) = ((65536 - 8 * k : Nat) : Int) := by rw [wi _ (by omega) (by omega)]; omega
  have z3 : decide (((65536 - 8 * k : Nat) : Int) = ((65536 - 8 * k : Nat) : Int)) = true := by simp
  have z3n : decide (65536 - 8 * k = 65536 - 8 * k) = true := by simp
  -- one too many
  have ha2 := appendL_spec c.toTabT p1 (B.take (8192 - k)) hr1 (by omega) (B.take (k + 1)) B (some B.length) (htt _ (by omega)) (by rw [htl _ (by omega)]; omega)
  rw [htl (k + 1) (by omega)] at ha2
  have hq := hS1.append (encsB (B.take (8192 - k))).length (B.take (k + 1))
  rw [append_full rfl (htg _) rfl (by simp only; rw [hte _ (by omega), hte _ (by omega)]; omega)] at hq
  generalize p1.append (encsB (B.take (8192 - k))).length (B.take (k + 1)) = q at hq ha2
  obtain ⟨p2, e⟩ := q
  simp only at hq ha2
  obtain ⟨rfl, hS2⟩ := hq
  have w4 : IntKind.i64.wrap ((k : Int) + 1) = ((k + 1 : Nat) : Int) := by rw [wi _ (by omega) (by omega)]; omega
  have d1 : (0 : Int) ≤ ((k + 1 : Nat) : Int) := by omega
  have d2 : ((k + 1 : Nat) : Int) ≤ (B.length : Int) := by omega
  have d3 : k + 1 ≤ B.length := by omega
  -- all, anew
  have ha3 := compactL_spec c.toTabT p2 (by have := hS2.l2; unfold Tp.oth at this; omega) B B none List.take_length (by omega)
  have hq := hS2.compact B
  rw [compact_free rfl rfl hBg (by omega)] at hq
  generalize p2.compact B = q at hq ha3
  obtain ⟨p3, e⟩ := q
  simp only at hq ha3
  obtain ⟨rfl, hS3⟩ := hq
  have hn3 : p3.now = encsB B := hS3.now
  have hr3 : ReadR p3.now B := by rw [hn3]; exact readR_encs hBg
  have ha4 := appendL_spec c.toTabT p3 B hr3 (by rw [hn3]; omega) (B.take 1) B (some B.length) (htt _ (by omega)) (by rw [htl _ (by omega)]; omega)
  rw [htl 1 (by omega)] at ha4
  have hq := hS3.append (encsB B).length (B.take 1)
  rw [append_full rfl (htg _) rfl (by simp only; rw [hte _ (by omega)]; omega)] at hq
  generalize p3.append (encsB B).length (B.take 1) = q at hq ha4
  obtain ⟨p4, e⟩ := q
  simp only at hq ha4
  obtain ⟨rfl, hS4⟩ := hq
  have ha5 := compactL_spec c.toTabT p4 (by have := hS4.l2; unfold Tp.oth at this; omega) (B.take 1) B (some B.length) (htt _ (by omega)) (by rw [htl _ (by omega)]; omega)
  rw [htl 1 (by omega)] at ha5
  have hq := hS4.compact (B.take 1)
  rw [compact_free rfl rfl (htg _) (by rw [hte _ (by omega)]; omega)] at hq
  generalize p4.compact (B.take 1) = q at hq ha5
  obtain ⟨p5, e⟩ := q
  simp only at hq ha5
  obtain ⟨rfl, hS5⟩ := hq
  have hn5 : p5.now = encsB (B.take 1) := hS5.now
  have ha6 := appendL_spec c.toTabT p5 (B.take 1) (by rw [hn5]; exact readR_encs (htg _)) (by rw [hn5, hte _ (by omega)]; omega) (B.take 2) B (some B.length) (htt _ (by omega)) (by rw [htl _ (by omega)]; omega)
  rw [htl 2 (by omega)] at ha6
  have hq := hS5.append (encsB (B.take 1)).length (B.take 2)
  rw [append_free rfl rfl (htg _) rfl (by simp only; rw [hte _ (by omega), hte _ (by omega)]; omega)] at hq
  generalize p5.append (encsB (B.take 1)).length (B.take 2) = q at hq ha6
  obtain ⟨p6, e⟩ := q
  simp only at hq ha6
  obtain ⟨rfl, hS6⟩ := hq
  have hn6 : p6.now = encsB (B.take 1 ++ B.take 2) := by rw [encs_app]; exact hS6.now
  have hra := tread_spec c.toTabT p6 (B.take 1 ++ B.take 2) (by rw [hn6]; exact readR_encs fun x hx => (List.mem_append.1 hx).elim (htg _ x) (htg _ x)) (by have := hS6.l1; omega)
  rw [List.length_append, htl _ (by omega), htl _ (by omega)] at hra
  have hB2l : (B ++ [n8]).length = B.length + 1 := by simp
  have ha7 := compactL_spec c.toTabT p6 (by have := hS6.l2; unfold Tp.oth at this; omega) (B ++ [n8]) (B ++ [n8]) none List.take_length (by omega)
  have hq := hS6.compact (B ++ [n8])
  rw [compact_full rfl (fun x hx => (List.mem_append.1 hx).elim (hBg x) fun h => by rw [List.mem_singleton.1 h]; exact n8_good) (by rw [encs_app, List.length_append, hBe]; simp [encsB, n8_len])] at hq
  generalize p6.compact (B ++ [n8]) = q at hq ha7
  obtain ⟨p7, e⟩ := q
  simp only at hq ha7
  obtain ⟨rfl, hS7⟩ := hq
  rw [hB2l] at ha7
  have hroom : (B.length + 1) * 32 ≤ room := by simp only [room]; omega
  have hBt : B.take B.length = B := List.take_length
  unfold Tp.h Tp.o at hs1 hra
  unfold Tp.hn Tp.o at ha1 ha2 ha3 ha4 ha5 ha6 ha7
  (repeat' with_reducible first |apply qA|apply qB|apply qC|apply qD|apply qE|apply qF|(apply qG;decide)|apply qH|apply qI|apply qJ|apply qK|((first|apply qL|apply qM|apply qN|apply qO|((first|apply qP|apply qQ);decide +kernel));(conv=>lhs;simp only[go_sem, ibin, ishift, zj])<;>rfl)|((first|apply qR|apply qS);(conv=>lhs;simp only[go_sem])<;>rfl;rfl)|((first|apply qT|apply qU);(conv=>lhs;simp only[go_sem])<;>rfl;rfl)|apply qV|apply qW|apply qX|apply qY|apply qZ)
  (with_reducible((first|apply pA|apply pB|apply pC|apply pD|apply pE|((first|apply pF|apply pG);decide +kernel));(conv=>lhs;simp only[go_sem, ibin, ishift, w1, b1, b2, b3])<;>rfl))
  refine CK_call [0, 3, 1, 2] ha1 (by decide) (by simp) rfl rfl (by first | rfl | (simp only [go_sem, ci, cN]; done) | (simp only [go_sem, ci, cN] <;> rfl)) ?_
  rintro v h' ⟨rfl, rfl⟩
  (with_reducible((first|apply pA|apply pB|apply pC|apply pD|apply pE|((first|apply pF|apply pG);decide +kernel));(conv=>lhs;simp only[go_sem, ibin, ishift])<;>rfl))
  refine CK_call [0, 1, 2] hs1 (by decide) (by simp) rfl rfl (by first | rfl | (simp only [go_sem, ci]; done) | (simp only [go_sem, ci] <;> rfl)) ?_
  rintro v h' ⟨rfl, rfl⟩
  (with_reducible((first|apply WO2_finw|apply WO2_fina);(conv=>lhs;simp only[go_sem, ibin, ishift, w2, w3, z3, z3n])<;>rfl))
  (repeat' with_reducible first |apply qA|apply qB|apply qC|apply qD|apply qE|apply qF|(apply qG;decide)|apply qH|apply qI|apply qJ|apply qK|((first|apply qL|apply qM|apply qN|apply qO|((first|apply qP|apply qQ);decide +kernel));(conv=>lhs;simp only[go_sem, ibin, ishift])<;>rfl)|((first|apply qR|apply qS);(conv=>lhs;simp only[go_sem])<;>rfl;rfl)|((first|apply qT|apply qU);(conv=>lhs;simp only[go_sem])<;>rfl;rfl)|apply qV|apply qW|apply qX|apply qY|apply qZ)
  (with_reducible((first|apply pA|apply pB|apply pC|apply pD|apply pE|((first|apply pF|apply pG);decide +kernel));(conv=>lhs;simp only[go_sem, ibin, ishift, w4, d1, d2, d3])<;>rfl))
  refine CK_call [0, 3, 1, 2] ha2 (by decide) (by simp) rfl rfl (by first | rfl | (simp only [go_sem, ci, cN]; done) | (simp only [go_sem, ci, cN] <;> rfl)) ?_
  rintro v h' ⟨rfl, rfl⟩
  (with_reducible((first|apply pA|apply pB|apply pC|apply pD|apply pE|((first|apply pF|apply pG);decide +kernel));(conv=>lhs;simp only[go_sem, ibin, ishift])<;>rfl))
  refine CK_call [0, 3, 1, 2] ha3 (by decide) (by simp) rfl rfl (by first | rfl | (simp only [go_sem, ci, cN]; done) | (simp only [go_sem, ci, cN] <;> rfl)) ?_
  rintro v h' ⟨rfl, rfl⟩
  (with_reducible((first|apply pA|apply pB|apply pC|apply pD|apply pE|((first|apply pF|apply pG);decide +kernel));(conv=>lhs;simp only[go_sem, ibin, ishift, c1, c3])<;>rfl))
  refine CK_call [0, 3, 1, 2] ha4 (by decide) (by simp) rfl rfl (by first | rfl | (simp only [go_sem, ci, cN]; done) | (simp only [go_sem, ci, cN] <;> rfl)) ?_
  rintro v h' ⟨rfl, rfl⟩
  (with_reducible((first|apply WO2_finw|apply WO2_fina);(conv=>lhs;simp only[go_sem, ibin, ishift])<;>rfl))
  (repeat' with_reducible first |apply qA|apply qB|apply qC|apply qD|apply qE|apply qF|(apply qG;decide)|apply qH|apply qI|apply qJ|apply qK|((first|apply qL|apply qM|apply qN|apply qO|((first|apply qP|apply qQ);decide +kernel));(conv=>lhs;simp only[go_sem, ibin, ishift])<;>rfl)|((first|apply qR|apply qS);(conv=>lhs;simp only[go_sem])<;>rfl;rfl)|((first|apply qT|apply qU);(conv=>lhs;simp only[go_sem])<;>rfl;rfl)|apply qV|apply qW|apply qX|apply qY|apply qZ)
  (with_reducible((first|apply pA|apply pB|apply pC|apply pD|apply pE|((first|apply pF|apply pG);decide +kernel));(conv=>lhs;simp only[go_sem, ibin, ishift, c1, c3])<;>rfl))
  refine CK_call [0, 3, 1, 2] ha5 (by decide) (by simp) rfl rfl (by first | rfl | (simp only [go_sem, ci, cN]; done) | (simp only [go_sem, ci, cN] <;> rfl)) ?_
  rintro v h' ⟨rfl, rfl⟩
  (with_reducible((first|apply pA|apply pB|apply pC|apply pD|apply pE|((first|apply pF|apply pG);decide +kernel));(conv=>lhs;simp only[go_sem, ibin, ishift, c2, c4])<;>rfl))
  refine CK_call [0, 3, 1, 2] ha6 (by decide) (by simp) rfl rfl (by first | rfl | (simp only [go_sem, ci, cN]; done) | (simp only [go_sem, ci, cN] <;> rfl)) ?_
  rintro v h' ⟨rfl, rfl⟩
  (with_reducible((first|apply pA|apply pB|apply pC|apply pD|apply pE|((first|apply pF|apply pG);decide +kernel));(conv=>lhs;simp only[go_sem, ibin, ishift])<;>rfl))
  refine CK_call [0, 1, 2] hra (by decide) (by simp) rfl rfl (by first | rfl | (simp only [go_sem, ci]; done) | (simp only [go_sem, ci] <;> rfl)) ?_
  rintro v h' ⟨rfl, rfl⟩
  have c5 : (0 : Int) < (B.length : Int) := by omega
  have c6 : 0 < B.length := by omega
  (with_reducible((first|apply pA|apply pB|apply pC|apply pD|apply pE|((first|apply pF|apply pG);decide +kernel));(conv=>lhs;simp only[go_sem, ibin, ishift, hB0, hroom, hBt, cN, n8, c5, c6, Nat.le_refl])<;>rfl))
  refine CK_call [0, 6, 1, 2] ha7 (by decide) (by simp) rfl rfl (by first | rfl | (simp only [go_sem, ci, cN, n8, List.map_append]; done) | (simp only [go_sem, ci, cN, n8, List.map_append] <;> rfl)) ?_
  rintro v h' ⟨rfl, rfl⟩
  (with_reducible((first|apply WO2_finw|apply WO2_fina);(conv=>lhs;simp only[go_sem, ibin, ishift])<;>rfl))
  (repeat' with_reducible first |apply qA|apply qB|apply qC|apply qD|apply qE|apply qF|(apply qG;decide)|apply qH|apply qI|apply qJ|apply qK|((first|apply qL|apply qM|apply qN|apply qO|((first|apply qP|apply qQ);decide +kernel));(conv=>lhs;simp only[go_sem, ibin, ishift])<;>rfl)|((first|apply qR|apply qS);(conv=>lhs;simp only[go_sem])<;>rfl;rfl)|((first|apply qT|apply qU);(conv=>lhs;simp only[go_sem])<;>rfl;rfl)|apply qV|apply qW|apply qX|apply qY|apply qZ)
  refine ⟨by first | exact .inr rfl | exact .inl rfl, _, _, (by (conv => lhs; simp only [go_sem, ibin, ishift]) <;> with_reducible rfl), (by (conv => lhs; simp only [go_sem, ibin, ishift]) <;> with_reducible rfl), ?_⟩
  refine ⟨[], by decide, rfl, ?_⟩
  rfl
end Go.Proofs.Ytfmkomjflhifnaa.Ab
