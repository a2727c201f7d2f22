/- Chapter 19: TapeBudget. -/
import Derived.Test.YtfmkomjflhifnaaY19s
namespace Go.Proofs.Ytfmkomjflhifnaa.Ab
open Go
set_option linter.unusedVariables false
set_option linter.unusedSimpArgs false
variable {T : AT}
/-- the notes of the law -/
def cnc (i : Nat) : Nt := ⟨3, i, 0, 0⟩
def cncs (m : Nat) : List Nt := (List.range m).map cnc
theorem cnc_good {i : Nat} (h : i < 128) : goodN (cnc i) := by
  exact ⟨⟨Int.natCast_nonneg i, by show (i : Int) ≤ 2147483647; omega, .inl (by show (0 : Int) < usesZ 3; decide)⟩, ⟨by show (0 : Int) ≤ 0; decide, by show (0 : Int) ≤ 2147483647; decide, .inr rfl⟩, ⟨by show (0 : Int) ≤ 0; decide, by show (0 : Int) ≤ 2147483647; decide, .inr rfl⟩, by show 0 ≤ usesZ 3; decide, fun h => absurd (show (3 : Int) = 8 from h) (by decide)⟩
theorem cnc_len {i : Nat} (h : i < 128) : (encB (cnc i)).length = 5 := by
  rw [enc_len]
  have : numsB (argsN (cnc i)) = num i := by
    simp [argsN, cnc, numsB, show usesZ 3 = 1 from rfl]
  rw [this, num, if_pos h]; rfl
theorem cncs_good {m : Nat} (h : m ≤ 128) : ∀ x ∈ cncs m, goodN x := fun x hx => by
  obtain ⟨i, hi, rfl⟩ := List.mem_map.1 hx
  exact cnc_good (by have := List.mem_range.1 hi; omega)
/-- bytes of notes of five bytes each -/
theorem five_len : ∀ {l : List Nt}, (∀ x ∈ l, (encB x).length = 5) → (encsB l).length = 5 * l.length
  | [], _ => rfl
  | x :: l, h => by
    rw [encs_cons, List.length_append, five_len fun y hy => h y (.tail _ hy), h x (.head _), List.length_cons]; omega
theorem five_read : ∀ {l : List Nt} {n : Nat}, (∀ x ∈ l, goodN x) → (∀ x ∈ l, (encB x).length = 5) → n < 5 * l.length → ReadR ((encsB l).take n) (l.take (n / 5))
  | [], n, _, _, hn => by simp at hn
  | x :: l, n, hg, hf, hn => by
    by_cases h5 : n < 5
    · rw [show n / 5 = 0 by omega, List.take_zero]
      refine ⟨by simp, List.nil_prefix, fun m hm hp => ?_⟩
      have hp2 : encB m <+: (encsB (x :: l)).take n := by simpa [encsB] using hp
      have h1 : encB m <+: encsB (x :: l) := hp2.trans (List.take_prefix _ _)
      have h2 : encB x <+: encsB (x :: l) := by rw [encs_cons]; exact List.prefix_append _ _
      have := enc_unique hm (hg x (.head _)) h1 h2
      subst this
      have h3 := hp2.length_le
      rw [hf m (.head _), List.length_take] at h3
      omega
    · have ih := five_read (l := l) (n := n - 5) (fun y hy => hg y (.tail _ hy)) (fun y hy => hf y (.tail _ hy)) (by rw [List.length_cons] at hn; omega)
      obtain ⟨i1, i2, i3⟩ := ih
      have e : (encsB (x :: l)).take n = encB x ++ (encsB l).take (n - 5) := by
        rw [encs_cons, List.take_append, hf x (.head _), List.take_of_length_le (by rw [hf x (.head _)]; omega)]
      rw [show n / 5 = (n - 5) / 5 + 1 by omega, List.take_succ_cons]
      refine ⟨fun y hy => ?_, ?_, fun m hm hp => i3 m hm ?_⟩
      · rcases List.mem_cons.1 hy with rfl | hy
        · exact hg _ (.head _)
        · exact i1 y hy
      · rw [e, encs_cons]; exact (List.prefix_append_right_inj _).2 i2
      · rw [e, encs_cons, List.length_append, ← List.drop_drop, List.drop_left] at hp
        exact hp
theorem read_app {w g : List Nt} {b : List UInt8} (hw : ∀ x ∈ w, goodN x) (h : ReadR b g) : ReadR (encsB w ++ b) (w ++ g) := by
  refine ⟨fun x hx => ?_, ?_, fun m hm hp => h.2.2 m hm ?_⟩
  · rcases List.mem_append.1 hx with hx | hx
    · exact hw x hx
    · exact h.1 x hx
  · rw [encs_app]; exact (List.prefix_append_right_inj _).2 h.2.1
  · rw [encs_app, List.length_append, ← List.drop_drop, List.drop_left] at hp
    exact hp
theorem min3 (n : Nat) : (if (3 : Int) < (n : Int) then (3 : Int) else (n : Int)) = ((min n 3 : Nat) : Int) := by
  split <;> omega
theorem umod (x : Int) (k : Nat) (hk : 0 < k) (hk2 : k ≤ 100000) : ∃ v : Nat, IntKind.i64.wrap ((IntKind.u64.wrap x).tmod (k : Int)) = (v : Int) ∧ v < k := by
  have e : IntKind.u64.wrap x = x % 18446744073709551616 := rfl
  have h0 : 0 ≤ x % 18446744073709551616 := Int.emod_nonneg _ (by decide)
  have h1 := Int.emod_nonneg (x % 18446744073709551616) (show (k : Int) ≠ 0 by omega)
  have h2 := Int.emod_lt_of_pos (x % 18446744073709551616) (show (0 : Int) < k by omega)
  refine ⟨(x % 18446744073709551616 % (k : Int)).toNat, ?_, by omega⟩
  rw [e, Int.tmod_eq_emod_of_nonneg h0, wi _ (by omega) (by omega)]
  omega
set_option maxHeartbeats 1000000 in
theorem tapeBudget_law (c : TabL19 T) (hT : T i_stillagelaw19_TapeBudget = some (.fn c_stillagelaw19_TapeBudget)) (n many : Int) : Ret2 T 0 i_stillagelaw19_TapeBudget [.i .i64 n, .i .i64 many] [] (fun v h' => v = .b true) := by
  refine Ret2_fnv hT rfl rfl ?_
  (repeat' with_reducible first |apply qA|apply qB|apply qC|apply qD|apply qE|apply qF|(apply qG;decide)|apply qH|apply qI|apply qJ|apply qK|((first|apply qL|apply qM|apply qN|apply qO|((first|apply qP|apply qQ);decide +kernel));(conv=>lhs;simp only[go_sem, ibin, ishift])<;>rfl)|((first|apply qR|apply qS);(conv=>lhs;simp only[go_sem])<;>rfl;rfl)|((first|apply qT|apply qU);(conv=>lhs;simp only[go_sem])<;>rfl;rfl)|apply qV|apply qW|apply qX|apply qY|apply qZ)
  (with_reducible((first|apply pA|apply pB|apply pC|apply pD|apply pE|((first|apply pF|apply pG);decide +kernel));(conv=>lhs;simp only[go_sem, ibin, ishift])<;>rfl))
  refine CK_pure (new_spec c.toTabT) rfl ?_
  rintro v h' ⟨rfl, rfl⟩
  unfold Tp.h Tp.o
  have hS0 := Sim.new
  have hr0 : Rt.new.dead = false ∧ Rt.new.bud = -1 ∧ Rt.new.now = [] := ⟨rfl, rfl, rfl⟩
  generalize Tp.new = p0 at hS0 ⊢
  generalize Rt.new = r0 at hS0 hr0
  (with_reducible((first|apply WO2_finw|apply WO2_fina);(conv=>lhs;simp only[go_sem, ibin, ishift])<;>rfl))
  (repeat' with_reducible first |apply qA|apply qB|apply qC|apply qD|apply qE|apply qF|(apply qG;decide)|apply qH|apply qI|apply qJ|apply qK|((first|apply qL|apply qM|apply qN|apply qO|((first|apply qP|apply qQ);decide +kernel));(conv=>lhs;simp only[go_sem, ibin, ishift])<;>rfl)|((first|apply qR|apply qS);(conv=>lhs;simp only[go_sem])<;>rfl;rfl)|((first|apply qT|apply qU);(conv=>lhs;simp only[go_sem])<;>rfl;rfl)|apply qV|apply qW|apply qX|apply qY|apply qZ)
  (with_reducible((first|apply pA|apply pB|apply pC|apply pD|apply pE|((first|apply pF|apply pG);decide +kernel));(conv=>lhs;simp only[go_sem, ibin, ishift])<;>rfl))
  refine CK_pure (always_spec c.awake) rfl ?_
  rintro v h' ⟨rfl, rfl⟩
  obtain ⟨b, hb, hb1⟩ := umod n 300 (by decide) (by decide)
  obtain ⟨m, hm, hm1⟩ := umod many 60 (by decide) (by decide)
  have hb : IntKind.i64.wrap ((IntKind.u64.wrap n).tmod 300) = (b : Int) := hb
  have hm : IntKind.i64.wrap ((IntKind.u64.wrap many).tmod 60) = (m : Int) := hm
  have mk0 : (0 : Int) ≤ (m : Int) := by omega
  have mk1 : (m : Int) * 32 ≤ (room : Int) := by simp only [room]; omega
  (with_reducible((first|apply WO2_finw|apply WO2_fina);(conv=>lhs;simp only[go_sem, ibin, ishift])<;>rfl))
  (repeat' with_reducible first |apply qA|apply qB|apply qC|apply qD|apply qE|apply qF|(apply qG;decide)|apply qH|apply qI|apply qJ|apply qK|((first|apply qL|apply qM|apply qN|apply qO|((first|apply qP|apply qQ);decide +kernel));(conv=>lhs;simp only[go_sem, ibin, ishift, hb, hm, mk0, mk1, Int.le_refl, Int.toNat_natCast])<;>rfl)|((first|apply qR|apply qS);(conv=>lhs;simp only[go_sem])<;>rfl;rfl)|((first|apply qT|apply qU);(conv=>lhs;simp only[go_sem])<;>rfl;rfl)|apply qV|apply qW|apply qX|apply qY|apply qZ)
  rw [show List.replicate m [PV.i .i64 0, PV.i .i64 0, PV.i .i64 0, PV.i .i64 0] = (List.replicate m (Nt.mk 0 0 0 0)).map cN by rw [List.map_replicate]; rfl]
  refine W2_loopu (fun mm u g => ∃ (j : Nat) (E : List Nt), j + mm = m ∧ E.length = m ∧ (∀ k < j, E[k]? = some (cnc k)) ∧ u = [(29, .i .i64 j)] ∧ g = [(3, .arr 4 (E.map cN))]) m ⟨0, _, by omega, by simp, fun k hk => by omega, rfl, rfl⟩ rfl rfl ?_
  rintro mm u g ⟨j, E, hj, hEl, hE, rfl, rfl⟩
  intro e1 h1 he1 hh1; simp only [egd, supE, hgd, supH, Nat.reduceEqDiff, Nat.reduceAdd, if_true, if_false, reduceIte] at he1 hh1; subst he1; subst hh1
  by_cases hjl : j < m
  · have zj : decide (j < m) = true := decide_eq_true hjl
    have zj2 : decide ((j : Int) < (m : Int)) = true := decide_eq_true (by omega)
    have hjE : j < E.length := by omega
    have j0 : (0 : Int) ≤ (j : Int) := by omega
    have j1 : (j : Int) < (m : Int) := by omega
    have wj := wS (show j < 9223372036854775807 by omega)
    have hgE := List.getElem?_eq_getElem hjE
    generalize E[j] = ee at hgE
    (repeat' with_reducible first |apply qA|apply qB|apply qC|apply qD|apply qE|apply qF|(apply qG;decide)|apply qH|apply qI|apply qJ|apply qK|((first|apply qL|apply qM|apply qN|apply qO|((first|apply qP|apply qQ);decide +kernel));(conv=>lhs;simp only[go_sem, ibin, ishift, zj, zj2, j0, j1, hjl, hjE, hgE, cN, hEl, wj])<;>rfl)|((first|apply qR|apply qS);(conv=>lhs;simp only[go_sem])<;>rfl;rfl)|((first|apply qT|apply qU);(conv=>lhs;simp only[go_sem])<;>rfl;rfl)|apply qV|apply qW|apply qX|apply qY|apply qZ)
    rw [show (E.map cN).set j [.i .i64 3, .i .i64 j, .i .i64 0, .i .i64 0] = (E.set j (cnc j)).map cN by rw [List.map_set]; rfl]
    refine ⟨[0, 1, 2, 3], by decide, rfl, ?_⟩
    exact ⟨m - (j + 1), _, _, by omega, ⟨j + 1, E.set j (cnc j), by omega, (by rw [List.length_set]; exact hEl), fun k hk => by
      by_cases e : j = k
      · subst e; exact List.getElem?_set_self hjE
      · rw [List.getElem?_set_ne e]; exact hE k (by omega), rfl, rfl⟩, rfl, (by first | rfl | ((conv => lhs; simp only [go_sem, ibin, ishift]) <;> rfl))⟩
  have hje : j = m := by omega
  subst hje
  have hEE : E = cncs j := by
    apply List.ext_getElem?
    intro k
    by_cases hk : k < j
    · rw [hE k hk, cncs, List.getElem?_map, List.getElem?_range hk]; rfl
    · rw [List.getElem?_eq_none (by omega), List.getElem?_eq_none (by simp [cncs]; omega)]
  subst hEE
  clear hE hEl
  have hgd := cncs_good (m := j) (by omega)
  have h5 : ∀ x ∈ cncs j, (encB x).length = 5 := fun x hx => by
    obtain ⟨i, hi, rfl⟩ := List.mem_map.1 hx
    exact cnc_len (by have := List.mem_range.1 hi; omega)
  have hcl : (cncs j).length = j := by simp [cncs]
  generalize cncs j = L at hgd h5 hcl
  have zj : decide (j < j) = false := decide_eq_false (by omega)
  have zj2 : decide ((j : Int) < (j : Int)) = false := decide_eq_false (by omega)
  have m3 := min3 j
  have b1 : (0 : Int) ≤ ((min j 3 : Nat) : Int) := by omega
  have b2 : ((min j 3 : Nat) : Int) ≤ (j : Int) := by omega
  have b3 : min j 3 ≤ L.length := by omega
  have hL3 : (L.take (min j 3)).length = min j 3 := by rw [List.length_take]; omega
  have hg3 : ∀ x ∈ L.take (min j 3), goodN x := fun x hx => hgd x (List.mem_of_mem_take hx)
  have he3 := five_len fun x hx => h5 x (List.mem_of_mem_take (i := min j 3) hx)
  have heL := five_len h5
  rw [hL3] at he3
  rw [hcl] at heL
  subst hcl
  refine W2.wfrz 3 rfl (by (conv => lhs; simp only [go_sem, ibin, ishift]) <;> with_reducible rfl) (by (conv => lhs; simp only [go_sem, ibin, ishift]) <;> with_reducible rfl) ?_
  (repeat' with_reducible first |apply qA|apply qB|apply qC|apply qD|apply qE|apply qF|(apply qG;decide)|apply qH|apply qI|apply qJ|apply qK|((first|apply qL|apply qM|apply qN|apply qO|((first|apply qP|apply qQ);decide +kernel));(conv=>lhs;simp only[go_sem, ibin, ishift, zj, zj2])<;>rfl)|((first|apply qR|apply qS);(conv=>lhs;simp only[go_sem])<;>rfl;rfl)|((first|apply qT|apply qU);(conv=>lhs;simp only[go_sem])<;>rfl;rfl)|apply qV|apply qW|apply qX|apply qY|apply qZ)
  (with_reducible((first|apply pA|apply pB|apply pC|apply pD|apply pE|((first|apply pF|apply pG);decide +kernel));(conv=>lhs;simp only[go_sem, ibin, ishift, m3, b1, b2, b3])<;>rfl))
  have hnow0 : p0.now = [] := hS0.now.trans hr0.2.2
  have hq := hS0.append (encsB []).length (L.take (min L.length 3))
  refine CK_call [0, 1, 2] (append_spec c.toTabT p0 [] (by rw [hnow0]; exact readR_encs (l := []) (by simp)) (by rw [hnow0]; exact Nat.zero_le _) (L.take (min L.length 3)) (by omega)) (by decide) (by simp) rfl rfl (by first | rfl | (simp only [go_sem, Tp.h, Tp.o, ci]; done) | (simp only [go_sem, Tp.h, Tp.o, ci] <;> rfl)) ?_
  rintro v h' ⟨rfl, rfl⟩
  rw [append_free hr0.1 hr0.2.1 hg3 (by rw [hr0.2.2]; rfl) (by rw [hr0.2.2]; simp only [List.length_nil]; omega), hr0.2.2, List.nil_append] at hq
  generalize p0.append (encsB []).length (L.take (min L.length 3)) = q at hq
  obtain ⟨p1, e⟩ := q
  simp only at hq
  obtain ⟨rfl, hS1⟩ := hq
  have hn1 : p1.now.length = 5 * min L.length 3 := by rw [hS1.now]; exact he3
  have hss := size_spec c.toTabT p1
  rw [hn1] at hss
  have w5 : IntKind.i64.wrap (5 * ((min L.length 3 : Nat) : Int)) = ((5 * min L.length 3 : Nat) : Int) := by rw [wi _ (by omega) (by omega)]; omega
  have z5 : decide (5 * min L.length 3 = 5 * min L.length 3) = true := by simp
  have z5i : decide (((5 * min L.length 3 : Nat) : Int) = ((5 * min L.length 3 : Nat) : Int)) = true := by simp
  unfold Tp.h Tp.o at hss ⊢
  (with_reducible((first|apply pA|apply pB|apply pC|apply pD|apply pE|((first|apply pF|apply pG);decide +kernel));(conv=>lhs;simp only[go_sem, ibin, ishift])<;>rfl))
  refine CK_call [0, 1, 2] hss (by decide) (by simp) rfl rfl (by first | rfl | (simp only [go_sem, ci]; done) | (simp only [go_sem, ci] <;> rfl)) ?_
  rintro v h' ⟨rfl, rfl⟩
  (with_reducible((first|apply pA|apply pB|apply pC|apply pD|apply pE|((first|apply pF|apply pG);decide +kernel));(conv=>lhs;simp only[go_sem, ibin, ishift, m3, w5, z5, z5i])<;>rfl))
  have hq := hS1.arm b
  refine CK_call [0, 1, 2] (arm_spec c.toTabT p1 b) (by decide) (by simp) rfl rfl (by first | rfl | (simp only [go_sem, Tp.h, Tp.o, ci]; done) | (simp only [go_sem, Tp.h, Tp.o, ci] <;> rfl)) ?_
  rintro v h' ⟨rfl, rfl⟩
  rw [show Rt.arm ⟨encsB (L.take (min L.length 3)), r0.oth, -1, false⟩ b = (⟨encsB (L.take (min L.length 3)), r0.oth, b, false⟩, 0) by rw [Rt.arm, if_neg (fun h => by cases h), if_neg (by omega)]] at hq
  generalize p1.arm b = q at hq
  obtain ⟨p2, e⟩ := q
  simp only at hq
  obtain ⟨rfl, hS2⟩ := hq
  have hn2 : p2.now = encsB (L.take (min L.length 3)) := hS2.now
  have hss2 := size_spec c.toTabT p2
  rw [show p2.now.length = 5 * min L.length 3 by rw [hn2]; exact he3] at hss2
  unfold Tp.h Tp.o at hss2 ⊢
  (with_reducible((first|apply WO2_finw|apply WO2_fina);(conv=>lhs;simp only[go_sem, ibin, ishift])<;>rfl))
  (repeat' with_reducible first |apply qA|apply qB|apply qC|apply qD|apply qE|apply qF|(apply qG;decide)|apply qH|apply qI|apply qJ|apply qK|((first|apply qL|apply qM|apply qN|apply qO|((first|apply qP|apply qQ);decide +kernel));(conv=>lhs;simp only[go_sem, ibin, ishift])<;>rfl)|((first|apply qR|apply qS);(conv=>lhs;simp only[go_sem])<;>rfl;rfl)|((first|apply qT|apply qU);(conv=>lhs;simp only[go_sem])<;>rfl;rfl)|apply qV|apply qW|apply qX|apply qY|apply qZ)
  (with_reducible((first|apply pA|apply pB|apply pC|apply pD|apply pE|((first|apply pF|apply pG);decide +kernel));(conv=>lhs;simp only[go_sem, ibin, ishift])<;>rfl))
  refine CK_call [0, 1, 2] hss2 (by decide) (by simp) rfl rfl (by first | rfl | (simp only [go_sem, ci]; done) | (simp only [go_sem, ci] <;> rfl)) ?_
  rintro v h' ⟨rfl, rfl⟩
  (with_reducible((first|apply WO2_finw|apply WO2_fina);(conv=>lhs;simp only[go_sem, ibin, ishift])<;>rfl))
  (repeat' with_reducible first |apply qA|apply qB|apply qC|apply qD|apply qE|apply qF|(apply qG;decide)|apply qH|apply qI|apply qJ|apply qK|((first|apply qL|apply qM|apply qN|apply qO|((first|apply qP|apply qQ);decide +kernel));(conv=>lhs;simp only[go_sem, ibin, ishift])<;>rfl)|((first|apply qR|apply qS);(conv=>lhs;simp only[go_sem])<;>rfl;rfl)|((first|apply qT|apply qU);(conv=>lhs;simp only[go_sem])<;>rfl;rfl)|apply qV|apply qW|apply qX|apply qY|apply qZ)
  (with_reducible((first|apply pA|apply pB|apply pC|apply pD|apply pE|((first|apply pF|apply pG);decide +kernel));(conv=>lhs;simp only[go_sem, ibin, ishift])<;>rfl))
  have hq := hS2.append (encsB (L.take (min L.length 3))).length L
  refine CK_call [0, 1, 2] (append_spec c.toTabT p2 (L.take (min L.length 3)) (by rw [hn2]; exact readR_encs hg3) (by rw [hn2]; omega) L (by omega)) (by decide) (by simp) rfl rfl (by first | rfl | (simp only [go_sem, Tp.h, Tp.o, ci]; done) | (simp only [go_sem, Tp.h, Tp.o, ci] <;> rfl)) ?_
  rintro v h' ⟨rfl, rfl⟩
  have hap : Rt.append ⟨encsB (L.take (min L.length 3)), r0.oth, b, false⟩ (encsB (L.take (min L.length 3))).length L = if 5 * L.length ≤ b then (⟨encsB (L.take (min L.length 3)) ++ encsB L, r0.oth, (b : Int) - (encsB L).length, false⟩, 0) else (⟨encsB (L.take (min L.length 3)) ++ (encsB L).take b, r0.oth, 0, true⟩, 190) := by
    rw [Rt.append, if_neg (fun h => by cases h), if_neg (fun h => h hgd), if_neg (by simp), if_neg (by simp only; omega), Rt.some]
    by_cases hb2 : 5 * L.length ≤ b
    · rw [if_pos hb2, if_pos (.inr (by rw [heL]; simp only; omega)), if_pos (by simp only; omega)]
      simp only [List.take_length]; rfl
    · rw [if_neg hb2, if_neg (by rw [heL]; simp only; omega)]
      simp only [Int.toNat_natCast]; rfl
  rw [hap] at hq
  generalize p2.append (encsB (L.take (min L.length 3))).length L = q at hq
  obtain ⟨p3, e⟩ := q
  have wm : IntKind.i64.wrap (5 * (L.length : Int)) = ((5 * L.length : Nat) : Int) := by rw [wi _ (by omega) (by omega)]; omega
  by_cases hb2 : 5 * L.length ≤ b
  · rw [if_pos hb2] at hq
    simp only at hq
    obtain ⟨rfl, hS3⟩ := hq
    have zb : decide (((5 * L.length : Nat) : Int) ≤ (b : Int)) = true := decide_eq_true (by omega)
    have zbn : decide (5 * L.length ≤ b) = true := decide_eq_true hb2
    have hn3 : p3.now = encsB (L.take (min L.length 3) ++ L) := by rw [encs_app]; exact hS3.now
    have hl3 : p3.now.length = 5 * min L.length 3 + 5 * L.length := by rw [hn3, encs_app, List.length_append]; omega
    have hss3 := size_spec c.toTabT p3
    have hrd := tread_spec c.toTabT p3 (L.take (min L.length 3) ++ L) (by rw [hn3]; exact readR_encs fun x hx => (List.mem_append.1 hx).elim (hg3 x) (hgd x)) (by omega)
    rw [hl3] at hss3
    rw [List.length_append, hL3] at hrd
    have ws : IntKind.i64.wrap (((5 * min L.length 3 : Nat) : Int) + ((5 * L.length : Nat) : Int)) = ((5 * min L.length 3 + 5 * L.length : Nat) : Int) := by rw [wi _ (by omega) (by omega)]; omega
    have wc : IntKind.i64.wrap ((L.length : Int) + ((min L.length 3 : Nat) : Int)) = ((min L.length 3 + L.length : Nat) : Int) := by rw [wi _ (by omega) (by omega)]; omega
    have zs : decide (((5 * min L.length 3 + 5 * L.length : Nat) : Int) = ((5 * min L.length 3 + 5 * L.length : Nat) : Int)) = true := by simp
    have zsn : decide (5 * min L.length 3 + 5 * L.length = 5 * min L.length 3 + 5 * L.length) = true := by simp
    have zc : decide (((min L.length 3 + L.length : Nat) : Int) = ((min L.length 3 + L.length : Nat) : Int)) = true := by simp
    have zcn : decide (min L.length 3 + L.length = min L.length 3 + L.length) = true := by simp
    unfold Tp.h Tp.o at hss3 hrd ⊢
    (with_reducible((first|apply WO2_finw|apply WO2_fina);(conv=>lhs;simp only[go_sem, ibin, ishift])<;>rfl))
    (repeat' with_reducible first |apply qA|apply qB|apply qC|apply qD|apply qE|apply qF|(apply qG;decide)|apply qH|apply qI|apply qJ|apply qK|((first|apply qL|apply qM|apply qN|apply qO|((first|apply qP|apply qQ);decide +kernel));(conv=>lhs;simp only[go_sem, ibin, ishift, wm, zb, zbn])<;>rfl)|((first|apply qR|apply qS);(conv=>lhs;simp only[go_sem])<;>rfl;rfl)|((first|apply qT|apply qU);(conv=>lhs;simp only[go_sem])<;>rfl;rfl)|apply qV|apply qW|apply qX|apply qY|apply qZ)
    (with_reducible((first|apply pA|apply pB|apply pC|apply pD|apply pE|((first|apply pF|apply pG);decide +kernel));(conv=>lhs;simp only[go_sem, ibin, ishift])<;>rfl))
    refine CK_call [0, 1, 2] hss3 (by decide) (by simp) rfl rfl (by first | rfl | (simp only [go_sem, ci]; done) | (simp only [go_sem, ci] <;> rfl)) ?_
    rintro v h' ⟨rfl, rfl⟩
    (with_reducible((first|apply pA|apply pB|apply pC|apply pD|apply pE|((first|apply pF|apply pG);decide +kernel));(conv=>lhs;simp only[go_sem, ibin, ishift, wm, ws, zs, zsn])<;>rfl))
    refine CK_call [0, 1, 2] hrd (by decide) (by simp) rfl rfl (by first | rfl | (simp only [go_sem, ci]; done) | (simp only [go_sem, ci] <;> rfl)) ?_
    rintro v h' ⟨rfl, rfl⟩
    (with_reducible((first|apply WO2_finw|apply WO2_fina);(conv=>lhs;simp only[go_sem, ibin, ishift, m3, wc, zc, zcn])<;>rfl))
    (repeat' with_reducible first |apply qA|apply qB|apply qC|apply qD|apply qE|apply qF|(apply qG;decide)|apply qH|apply qI|apply qJ|apply qK|((first|apply qL|apply qM|apply qN|apply qO|((first|apply qP|apply qQ);decide +kernel));(conv=>lhs;simp only[go_sem, ibin, ishift])<;>rfl)|((first|apply qR|apply qS);(conv=>lhs;simp only[go_sem])<;>rfl;rfl)|((first|apply qT|apply qU);(conv=>lhs;simp only[go_sem])<;>rfl;rfl)|apply qV|apply qW|apply qX|apply qY|apply qZ)
    refine ⟨by first | exact .inr rfl | exact .inl rfl, _, _, (by (conv => lhs; simp only [go_sem, ibin, ishift]) <;> with_reducible rfl), (by (conv => lhs; simp only [go_sem, ibin, ishift]) <;> with_reducible rfl), ?_⟩
    refine ⟨[], by decide, rfl, ?_⟩
    rfl
  · rw [if_neg hb2] at hq
    simp only at hq
    obtain ⟨rfl, hS3⟩ := hq
    have zb : decide (((5 * L.length : Nat) : Int) ≤ (b : Int)) = false := decide_eq_false (by omega)
    have zbn : decide (5 * L.length ≤ b) = false := decide_eq_false hb2
    have hn3 : p3.now = encsB (L.take (min L.length 3)) ++ (encsB L).take b := hS3.now
    have hl3 : p3.now.length = 5 * min L.length 3 + b := by rw [hn3, List.length_append, List.length_take]; omega
    have hss3 := size_spec c.toTabT p3
    have hrd := tread_spec c.toTabT p3 (L.take (min L.length 3) ++ L.take (b / 5)) (by rw [hn3]; exact read_app hg3 (five_read hgd h5 (by omega))) (by omega)
    rw [hl3] at hss3
    have h5l : (L.take (b / 5)).length = b / 5 := by rw [List.length_take]; omega
    rw [List.length_append, hL3, h5l] at hrd
    have ws : IntKind.i64.wrap (((5 * min L.length 3 : Nat) : Int) + (b : Int)) = ((5 * min L.length 3 + b : Nat) : Int) := by rw [wi _ (by omega) (by omega)]; omega
    have hq5 : (b : Int).tdiv 5 = ((b / 5 : Nat) : Int) := by rw [Int.tdiv_eq_ediv_of_nonneg (by omega)]; omega
    have wq : IntKind.i64.wrap ((b / 5 : Nat) : Int) = ((b / 5 : Nat) : Int) := wi _ (by omega) (by omega)
    have wc : IntKind.i64.wrap (((min L.length 3 : Nat) : Int) + ((b / 5 : Nat) : Int)) = ((min L.length 3 + b / 5 : Nat) : Int) := by rw [wi _ (by omega) (by omega)]; omega
    have zs : decide (((5 * min L.length 3 + b : Nat) : Int) = ((5 * min L.length 3 + b : Nat) : Int)) = true := by simp
    have zsn : decide (5 * min L.length 3 + b = 5 * min L.length 3 + b) = true := by simp
    have zc : decide (((min L.length 3 + b / 5 : Nat) : Int) = ((min L.length 3 + b / 5 : Nat) : Int)) = true := by simp
    have zcn : decide (min L.length 3 + b / 5 = min L.length 3 + b / 5) = true := by simp
    unfold Tp.h Tp.o at hss3 hrd ⊢
    (with_reducible((first|apply WO2_finw|apply WO2_fina);(conv=>lhs;simp only[go_sem, ibin, ishift])<;>rfl))
    (repeat' with_reducible first |apply qA|apply qB|apply qC|apply qD|apply qE|apply qF|(apply qG;decide)|apply qH|apply qI|apply qJ|apply qK|((first|apply qL|apply qM|apply qN|apply qO|((first|apply qP|apply qQ);decide +kernel));(conv=>lhs;simp only[go_sem, ibin, ishift, wm, zb, zbn])<;>rfl)|((first|apply qR|apply qS);(conv=>lhs;simp only[go_sem])<;>rfl;rfl)|((first|apply qT|apply qU);(conv=>lhs;simp only[go_sem])<;>rfl;rfl)|apply qV|apply qW|apply qX|apply qY|apply qZ)
    (with_reducible((first|apply pA|apply pB|apply pC|apply pD|apply pE|((first|apply pF|apply pG);decide +kernel));(conv=>lhs;simp only[go_sem, ibin, ishift])<;>rfl))
    refine CK_call [0, 1, 2] hss3 (by decide) (by simp) rfl rfl (by first | rfl | (simp only [go_sem, ci]; done) | (simp only [go_sem, ci] <;> rfl)) ?_
    rintro v h' ⟨rfl, rfl⟩
    (with_reducible((first|apply pA|apply pB|apply pC|apply pD|apply pE|((first|apply pF|apply pG);decide +kernel));(conv=>lhs;simp only[go_sem, ibin, ishift, ws, zs, zsn])<;>rfl))
    refine CK_call [0, 1, 2] hrd (by decide) (by simp) rfl rfl (by first | rfl | (simp only [go_sem, ci]; done) | (simp only [go_sem, ci] <;> rfl)) ?_
    rintro v h' ⟨rfl, rfl⟩
    (with_reducible((first|apply WO2_finw|apply WO2_fina);(conv=>lhs;simp only[go_sem, ibin, ishift, m3, hq5, wq, wc, zc, zcn])<;>rfl))
    (repeat' with_reducible first |apply qA|apply qB|apply qC|apply qD|apply qE|apply qF|(apply qG;decide)|apply qH|apply qI|apply qJ|apply qK|((first|apply qL|apply qM|apply qN|apply qO|((first|apply qP|apply qQ);decide +kernel));(conv=>lhs;simp only[go_sem, ibin, ishift])<;>rfl)|((first|apply qR|apply qS);(conv=>lhs;simp only[go_sem])<;>rfl;rfl)|((first|apply qT|apply qU);(conv=>lhs;simp only[go_sem])<;>rfl;rfl)|apply qV|apply qW|apply qX|apply qY|apply qZ)
    refine ⟨by first | exact .inr rfl | exact .inl rfl, _, _, (by (conv => lhs; simp only [go_sem, ibin, ishift]) <;> with_reducible rfl), (by (conv => lhs; simp only [go_sem, ibin, ishift]) <;> with_reducible rfl), ?_⟩
    refine ⟨[], by decide, rfl, ?_⟩
    rfl
end Go.Proofs.Ytfmkomjflhifnaa.Ab
