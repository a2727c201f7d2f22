/- Chapter 06: LayoutLimits, the walk. -/
import Derived.Test.YtankmcjfglbbiaaDoorY06d
namespace Go.Proofs.YtankmcjfglbbiaaDoor.Ab
open Go
set_option linter.unusedVariables false
set_option linter.unusedSimpArgs false
variable {T : AT}
theorem dig_len (i : Nat) : (dig i).length ≤ 2 := by
  unfold dig
  split
  · exact Nat.le_succ 1
  split
  · exact Nat.le_succ 1
  · exact Nat.le_refl 2
theorem lay_v (n m : Nat) : (lay n m).v = .agg [.fz 3 (((List.range n).map nd).map cN), .fz 2 (((List.range m).map (ed n)).map cD)] := rfl
theorem layoutLimits_law (c : TabD T) (hT : T i_stillagelaw06_LayoutLimits = some (.fn c_stillagelaw06_LayoutLimits)) (a b : Int) : Ret2 T 0 i_stillagelaw06_LayoutLimits [.i .i64 a, .i .i64 b] [] (fun v h' => v = .b true) := by
  refine Ret2_fnv hT rfl rfl ?_
  obtain ⟨n, hn, hn1⟩ := umod a 50 (by decide) (by decide)
  obtain ⟨m, hm, hm1⟩ := umod b 140 (by decide) (by decide)
  have hn : IntKind.i64.wrap ((IntKind.u64.wrap a).tmod 50) = (n : Int) := hn
  have hm : IntKind.i64.wrap ((IntKind.u64.wrap b).tmod 140) = (m : Int) := hm
  (repeat' with_reducible first |apply qA|apply qB|apply qC|apply qD|apply qE|apply qF|(apply qG;decide)|apply qH|apply qI|apply qJ|apply qK|((first|apply qL|apply qM|apply qN|apply qO|((first|apply qP|apply qQ);decide +kernel));(conv=>lhs;simp only[go_sem, ibin, ishift])<;>rfl)|((first|apply qR|apply qS);(conv=>lhs;simp only[go_sem])<;>rfl;rfl)|((first|apply qT|apply qU);(conv=>lhs;simp only[go_sem])<;>rfl;rfl)|apply qV|apply qW|apply qX|apply qY|apply qZ)
  (with_reducible((first|apply pA|apply pB|apply pC|apply pD|apply pE|((first|apply pF|apply pG);decide +kernel));(conv=>lhs;simp only[go_sem, ibin, ishift])<;>rfl))
  refine CK_pure (awake_spec c.toTabF c.awake) rfl ?_
  rintro v h' ⟨rfl, rfl⟩
  (with_reducible((first|apply WO2_finw|apply WO2_fina);(conv=>lhs;simp only[go_sem, ibin, ishift])<;>rfl))
  ((repeat' with_reducible first |apply qA|apply qB|apply qC|apply qD|apply qE|apply qF|(apply qG;decide)|apply qH|apply qI|apply qJ|apply qK|apply qX|((first|apply qR|apply qS);(conv=>lhs;simp only[go_sem])<;>rfl;rfl)|((first|apply qT|apply qU);(conv=>lhs;simp only[go_sem])<;>rfl;rfl)|apply qZ|apply qY|apply qW);with_reducible((first|apply qL|apply qM|apply qN|apply qO|((first|apply qP|apply qQ);decide +kernel));(conv=>lhs;simp only[go_sem, ibin, ishift, hn, hm])<;>rfl))
  ((repeat' with_reducible first |apply qA|apply qB|apply qC|apply qD|apply qE|apply qF|(apply qG;decide)|apply qH|apply qI|apply qJ|apply qK|apply qX|((first|apply qR|apply qS);(conv=>lhs;simp only[go_sem])<;>rfl;rfl)|((first|apply qT|apply qU);(conv=>lhs;simp only[go_sem])<;>rfl;rfl)|apply qZ|apply qY|apply qW);with_reducible((first|apply qL|apply qM|apply qN|apply qO|((first|apply qP|apply qQ);decide +kernel));(conv=>lhs;simp only[go_sem, ibin, ishift])<;>rfl))
  refine W2.weak (Wk.nilc 0 0 3 rfl rfl) ?_
  refine W2.weak (Wk.nilc 0 1 2 rfl rfl) ?_
  (repeat' with_reducible first |apply qA|apply qB|apply qC|apply qD|apply qE|apply qF|(apply qG;decide)|apply qH|apply qI|apply qJ|apply qK|((first|apply qL|apply qM|apply qN|apply qO|((first|apply qP|apply qQ);decide +kernel));(conv=>lhs;simp only[go_sem, ibin, ishift])<;>rfl)|((first|apply qR|apply qS);(conv=>lhs;simp only[go_sem])<;>rfl;rfl)|((first|apply qT|apply qU);(conv=>lhs;simp only[go_sem])<;>rfl;rfl)|apply qV|apply qW|apply qX|apply qY|apply qZ)
  refine W2_loopu (fun mm u g => ∃ (j : Nat) (N : List Nd), j + mm = n ∧ N = (List.range j).map nd ∧ N.length = j ∧ u = [(6, .i .i64 j)] ∧ g = [(0, .obj [.sl 3 1 0 N.length none, .sl 2 2 0 0 none]), (1, .arr 3 (N.map cN))]) n ⟨0, [], by omega, rfl, rfl, rfl, rfl⟩ rfl rfl ?_
  rintro mm u g ⟨j, N, hj, hN, hNl, rfl, rfl⟩
  intro e1 h1 he1 hh1; simp only [egd, supE, hgd, supH, Nat.reduceEqDiff, Nat.reduceAdd, if_true, if_false, reduceIte] at he1 hh1; subst he1; subst hh1
  by_cases hjn : j < n
  · have zj : decide (j < n) = true := decide_eq_true hjn
    have zji : decide ((j : Int) < (n : Int)) = true := decide_eq_true (by omega)
    have wj := wS (show j < 9223372036854775807 by omega)
    have hds := digits_spec c j (by omega)
    have hmod : (j : Int).tmod 8 = ((j % 8 : Nat) : Int) := Int.ofNat_tmod j 8
    have hroom : (N.length + 1) * 32 ≤ room := by simp only [room]; omega
    have hroom2 : 1 + (dig j).length ≤ room := by have := dig_len j; simp only [room]; omega
    have hNt : N.take N.length = N := List.take_length
    (repeat' with_reducible first |apply qA|apply qB|apply qC|apply qD|apply qE|apply qF|(apply qG;decide)|apply qH|apply qI|apply qJ|apply qK|((first|apply qL|apply qM|apply qN|apply qO|((first|apply qP|apply qQ);decide +kernel));(conv=>lhs;simp only[go_sem, ibin, ishift, zj, zji])<;>rfl)|((first|apply qR|apply qS);(conv=>lhs;simp only[go_sem])<;>rfl;rfl)|((first|apply qT|apply qU);(conv=>lhs;simp only[go_sem])<;>rfl;rfl)|apply qV|apply qW|apply qX|apply qY|apply qZ)
    (repeat' with_reducible first |apply qA|apply qB|apply qC|apply qD|apply qE|apply qF|(apply qG;decide)|apply qH|apply qI|apply qJ|apply qK|apply qX|((first|apply qR|apply qS);(conv=>lhs;simp only[go_sem])<;>rfl;rfl)|((first|apply qT|apply qU);(conv=>lhs;simp only[go_sem])<;>rfl;rfl)|apply qZ|apply qY|apply qW)
    (with_reducible first | apply W2_sregH [0] [false, true, false, false, false, false, false, false, false, false] | apply W2_regH [0] [false, true, false, false, false, false, false, false, false, false])
    · decide
    · decide
    · rfl
    ((conv => lhs; simp only [go_sem, ibin, ishift]) <;> with_reducible rfl)
    refine EH_pure hds rfl ?_
    rintro v h' ⟨rfl, rfl⟩
    (with_reducible apply WOH_go (by decide); ((conv => lhs; simp only [go_sem, ibin, ishift, hmod, hroom, hroom2, hNt, Nat.le_refl]) <;> with_reducible rfl))
    refine EH_go ?_
    (repeat' with_reducible first |apply qA|apply qB|apply qC|apply qD|apply qE|apply qF|(apply qG;decide)|apply qH|apply qI|apply qJ|apply qK|((first|apply qL|apply qM|apply qN|apply qO|((first|apply qP|apply qQ);decide +kernel));(conv=>lhs;simp only[go_sem, ibin, ishift, wj])<;>rfl)|((first|apply qR|apply qS);(conv=>lhs;simp only[go_sem])<;>rfl;rfl)|((first|apply qT|apply qU);(conv=>lhs;simp only[go_sem])<;>rfl;rfl)|apply qV|apply qW|apply qX|apply qY|apply qZ)
    refine ⟨[0, 4, 2], by decide, rfl, ?_⟩
    rw [show N.map cN ++ [[PV.s (110 :: dig j), PV.i .i64 1, PV.i .i64 ((j % 8 : Nat) : Int)]] = (N ++ [nd j]).map cN by rw [List.map_append]; rfl, show N.length + 1 = (N ++ [nd j]).length by simp]
    exact ⟨n - (j + 1), _, _, by omega, ⟨j + 1, N ++ [nd j], by omega, by rw [hN, List.range_succ, List.map_append]; rfl, by simp [hNl], rfl, rfl⟩, rfl, (by first | rfl | ((conv => lhs; simp only [go_sem, ibin, ishift]) <;> rfl))⟩
  have hje : j = n := by omega
  have zj : decide (j < n) = false := decide_eq_false hjn
  have zji : decide ((j : Int) < (n : Int)) = false := decide_eq_false (by omega)
  rw [hje] at hN hNl
  clear hje
  (repeat' with_reducible first |apply qA|apply qB|apply qC|apply qD|apply qE|apply qF|(apply qG;decide)|apply qH|apply qI|apply qJ|apply qK|((first|apply qL|apply qM|apply qN|apply qO|((first|apply qP|apply qQ);decide +kernel));(conv=>lhs;simp only[go_sem, ibin, ishift, zj, zji])<;>rfl)|((first|apply qR|apply qS);(conv=>lhs;simp only[go_sem])<;>rfl;rfl)|((first|apply qT|apply qU);(conv=>lhs;simp only[go_sem])<;>rfl;rfl)|apply qV|apply qW|apply qX|apply qY|apply qZ)
  clear zj zji hjn hj j
  refine W2_loopu (fun mm u g => ∃ (j : Nat) (E : List Ed), j + mm = m ∧ E = (List.range j).map (ed n) ∧ E.length = j ∧ (j = 0 ∨ 4 < n) ∧ u = [(7, .i .i64 j)] ∧ g = [(0, .obj [.sl 3 1 0 N.length none, .sl 2 2 0 E.length none]), (2, .arr 2 (E.map cD))]) m ⟨0, [], by omega, rfl, rfl, .inl rfl, rfl, rfl⟩ rfl rfl ?_
  rintro mm u g ⟨j, E, hj, hE, hEl, hj4, rfl, rfl⟩
  intro e1 h1 he1 hh1; simp only [egd, supE, hgd, supH, Nat.reduceEqDiff, Nat.reduceAdd, if_true, if_false, reduceIte] at he1 hh1; subst he1; subst hh1
  by_cases hjm : j < m ∧ 4 < n
  · have zj : decide (j < m) = true := decide_eq_true hjm.1
    have zji : decide ((j : Int) < (m : Int)) = true := decide_eq_true (by omega)
    have z4 : decide (n > 4) = true := decide_eq_true hjm.2
    have z4i : decide ((n : Int) > 4) = true := decide_eq_true (by omega)
    have wj := wS (show j < 9223372036854775807 by omega)
    have hmod : (j : Int).tmod (n : Int) = ((j % n : Nat) : Int) := Int.ofNat_tmod j n
    have hml : j % n < n := Nat.mod_lt _ (by omega)
    obtain ⟨q, hq⟩ : ∃ q, q = j / n := ⟨_, rfl⟩
    have hjn : q ≤ j := by rw [hq]; exact Nat.div_le_self j n
    have hdiv : (j : Int).tdiv (n : Int) = (q : Int) := by rw [hq]; exact Int.ofNat_tdiv j n
    have wd : IntKind.i64.wrap (q : Int) = (q : Int) := wi _ (by omega) (by omega)
    have w1 : IntKind.i64.wrap (((j + 1 : Nat) : Int) + (q : Int)) = ((j + 1 + q : Nat) : Int) := by rw [wi _ (by omega) (by omega)]; omega
    have hmod2 : ((j + 1 + q : Nat) : Int).tmod (n : Int) = (((j + 1 + q) % n : Nat) : Int) := Int.ofNat_tmod _ n
    have zn : ¬((n : Int) = 0) := by omega
    have hroom : (E.length + 1) * 16 ≤ room := by simp only [room]; omega
    have hEt : E.take E.length = E := List.take_length
    (repeat' with_reducible first |apply qA|apply qB|apply qC|apply qD|apply qE|apply qF|(apply qG;decide)|apply qH|apply qI|apply qJ|apply qK|((first|apply qL|apply qM|apply qN|apply qO|((first|apply qP|apply qQ);decide +kernel));(conv=>lhs;simp only[go_sem, ibin, ishift, zj, zji, z4, z4i])<;>rfl)|((first|apply qR|apply qS);(conv=>lhs;simp only[go_sem])<;>rfl;rfl)|((first|apply qT|apply qU);(conv=>lhs;simp only[go_sem])<;>rfl;rfl)|apply qV|apply qW|apply qX|apply qY|apply qZ)
    (repeat' with_reducible first |apply qA|apply qB|apply qC|apply qD|apply qE|apply qF|(apply qG;decide)|apply qH|apply qI|apply qJ|apply qK|apply qX|((first|apply qR|apply qS);(conv=>lhs;simp only[go_sem])<;>rfl;rfl)|((first|apply qT|apply qU);(conv=>lhs;simp only[go_sem])<;>rfl;rfl)|apply qZ|apply qY|apply qW)
    (with_reducible first | apply W2_sregH [0] [false, true, false, false, false, false, false, false, false, false, false, false, false, false, false, false] | apply W2_regH [0] [false, true, false, false, false, false, false, false, false, false, false, false, false, false, false, false])
    · decide
    · decide
    · rfl
    ((conv => lhs; simp only [go_sem, ibin, ishift, hmod, hdiv, wd, w1, wj, hmod2, zn, hroom, hEt, Nat.le_refl]) <;> with_reducible rfl)
    refine EH_go ?_
    (repeat' with_reducible first |apply qA|apply qB|apply qC|apply qD|apply qE|apply qF|(apply qG;decide)|apply qH|apply qI|apply qJ|apply qK|((first|apply qL|apply qM|apply qN|apply qO|((first|apply qP|apply qQ);decide +kernel));(conv=>lhs;simp only[go_sem, ibin, ishift, wj])<;>rfl)|((first|apply qR|apply qS);(conv=>lhs;simp only[go_sem])<;>rfl;rfl)|((first|apply qT|apply qU);(conv=>lhs;simp only[go_sem])<;>rfl;rfl)|apply qV|apply qW|apply qX|apply qY|apply qZ)
    refine ⟨[0, 1, 4], by decide, rfl, ?_⟩
    rw [show E.map cD ++ [[PV.i .i64 ((j % n : Nat) : Int), PV.i .i64 (((j + 1 + q) % n : Nat) : Int)]] = (E ++ [ed n j]).map cD by rw [List.map_append, hq]; rfl, show E.length + 1 = (E ++ [ed n j]).length by simp]
    exact ⟨m - (j + 1), _, _, by omega, ⟨j + 1, E ++ [ed n j], by omega, by rw [hE, List.range_succ, List.map_append]; rfl, by simp [hEl], .inr hjm.2, rfl, rfl⟩, rfl, (by first | rfl | ((conv => lhs; simp only [go_sem, ibin, ishift]) <;> rfl))⟩
  have hEm : E = (List.range (if 4 < n then m else 0)).map (ed n) := by
    rw [hE]
    split
    · rw [show j = m by omega]
    · rw [show j = 0 by omega]
  clear hE
  generalize hM : (if 4 < n then m else 0) = M at hEm
  have hMm : M ≤ 139 := by rw [← hM]; split <;> omega
  have hL := lay_v n M
  rw [← hN, ← hEm] at hL
  have hsz : (lay n M).ns.length ≤ 1000000 ∧ (lay n M).es.length ≤ 1000000 := by simp [lay]; omega
  have hnm : ∀ x ∈ (lay n M).ns, x.name.length ≤ 9223372036854775807 := fun x hx => by
    obtain ⟨i, _, rfl⟩ := List.mem_map.1 hx
    have := dig_len i
    simp only [nd, List.length_cons]; omega
  have hcs := check_spec c.k (lay n M) hsz hnm
  have hgs := good_spec c.toTabG (lay n M) hsz hnm
  rw [hL] at hcs hgs
  have hend : n ≤ 20 ∨ (20 < n ∧ (lay n M).good = decide (n ≤ 40 ∧ m ≤ 120)) := by
    by_cases h1 : n ≤ 20
    · exact .inl h1
    · refine .inr ⟨by omega, ?_⟩
      rw [if_pos (by omega)] at hM
      subst hM
      by_cases h2 : n ≤ 40 ∧ m ≤ 120
      · rw [decide_eq_true h2]; exact lay_good (by omega) h2.1 h2.2
      · rw [decide_eq_false h2]; exact lay_bad h2
  by_cases hj1 : j < m
  case' pos =>
    have zj : decide (j < m) = true := decide_eq_true hj1
    have zji : decide ((j : Int) < (m : Int)) = true := decide_eq_true (by omega)
    have z4 : decide (n > 4) = false := decide_eq_false (by omega)
    have z4i : decide ((n : Int) > 4) = false := decide_eq_false (by omega)
    refine W2.wfrz 1 rfl (by (conv => lhs; simp only [go_sem, ibin, ishift]) <;> with_reducible rfl) (by (conv => lhs; simp only [go_sem, ibin, ishift]) <;> with_reducible rfl) ?_
    refine W2.wfrz 2 rfl (by (conv => lhs; simp only [go_sem, ibin, ishift]) <;> with_reducible rfl) (by (conv => lhs; simp only [go_sem, ibin, ishift]) <;> with_reducible rfl) ?_
    (repeat' with_reducible first |apply qA|apply qB|apply qC|apply qD|apply qE|apply qF|(apply qG;decide)|apply qH|apply qI|apply qJ|apply qK|((first|apply qL|apply qM|apply qN|apply qO|((first|apply qP|apply qQ);decide +kernel));(conv=>lhs;simp only[go_sem, ibin, ishift, zj, zji, z4, z4i])<;>rfl)|((first|apply qR|apply qS);(conv=>lhs;simp only[go_sem])<;>rfl;rfl)|((first|apply qT|apply qU);(conv=>lhs;simp only[go_sem])<;>rfl;rfl)|apply qV|apply qW|apply qX|apply qY|apply qZ)
  case' neg =>
    have zj : decide (j < m) = false := decide_eq_false hj1
    have zji : decide ((j : Int) < (m : Int)) = false := decide_eq_false (by omega)
    refine W2.wfrz 1 rfl (by (conv => lhs; simp only [go_sem, ibin, ishift]) <;> with_reducible rfl) (by (conv => lhs; simp only [go_sem, ibin, ishift]) <;> with_reducible rfl) ?_
    refine W2.wfrz 2 rfl (by (conv => lhs; simp only [go_sem, ibin, ishift]) <;> with_reducible rfl) (by (conv => lhs; simp only [go_sem, ibin, ishift]) <;> with_reducible rfl) ?_
    (repeat' with_reducible first |apply qA|apply qB|apply qC|apply qD|apply qE|apply qF|(apply qG;decide)|apply qH|apply qI|apply qJ|apply qK|((first|apply qL|apply qM|apply qN|apply qO|((first|apply qP|apply qQ);decide +kernel));(conv=>lhs;simp only[go_sem, ibin, ishift, zj, zji])<;>rfl)|((first|apply qR|apply qS);(conv=>lhs;simp only[go_sem])<;>rfl;rfl)|((first|apply qT|apply qU);(conv=>lhs;simp only[go_sem])<;>rfl;rfl)|apply qV|apply qW|apply qX|apply qY|apply qZ)
  all_goals
    (with_reducible((first|apply pA|apply pB|apply pC|apply pD|apply pE|((first|apply pF|apply pG);decide +kernel));(conv=>lhs;simp only[go_sem, ibin, ishift])<;>rfl))
    refine CK_pure hcs rfl ?_
    rintro v h' ⟨rfl, rfl⟩
    (with_reducible((first|apply WO2_finw|apply WO2_fina);(conv=>lhs;simp only[go_sem, ibin, ishift])<;>rfl))
    have hz : ∀ G : Bool, decide ((if G = true then (0 : Int) else 61) = 0) = G := fun G => by cases G <;> rfl
    rw [hz]
    clear hz
    generalize (lay n M).good = G at hgs hend
    (repeat' with_reducible first |apply qA|apply qB|apply qC|apply qD|apply qE|apply qF|(apply qG;decide)|apply qH|apply qI|apply qJ|apply qK|apply qX|((first|apply qR|apply qS);(conv=>lhs;simp only[go_sem])<;>rfl;rfl)|((first|apply qT|apply qU);(conv=>lhs;simp only[go_sem])<;>rfl;rfl)|apply qZ|apply qY|apply qW)
    (with_reducible((first|apply pA|apply pB|apply pC|apply pD|apply pE|((first|apply pF|apply pG);decide +kernel));(conv=>lhs;simp only[go_sem, ibin, ishift])<;>rfl))
    refine CK_pure hgs rfl ?_
    rintro v h' ⟨rfl, rfl⟩
    have ze : decide (G = G) = true := decide_eq_true rfl
    rcases hend with h20 | ⟨h20, hG⟩
    · have z20 : decide (n ≤ 20) = true := decide_eq_true h20
      have z20i : decide ((n : Int) ≤ 20) = true := decide_eq_true (by omega)
      (with_reducible((first|apply WO2_finw|apply WO2_fina);(conv=>lhs;simp only[go_sem, ibin, ishift, z20, z20i, ze])<;>rfl))
      (repeat' with_reducible first |apply qA|apply qB|apply qC|apply qD|apply qE|apply qF|(apply qG;decide)|apply qH|apply qI|apply qJ|apply qK|((first|apply qL|apply qM|apply qN|apply qO|((first|apply qP|apply qQ);decide +kernel));(conv=>lhs;simp only[go_sem, ibin, ishift])<;>rfl)|((first|apply qR|apply qS);(conv=>lhs;simp only[go_sem])<;>rfl;rfl)|((first|apply qT|apply qU);(conv=>lhs;simp only[go_sem])<;>rfl;rfl)|apply qV|apply qW|apply qX|apply qY|apply qZ)
      refine ⟨by first | exact .inr rfl | exact .inl rfl, _, _, (by (conv => lhs; simp only [go_sem, ibin, ishift]) <;> with_reducible rfl), (by (conv => lhs; simp only [go_sem, ibin, ishift]) <;> with_reducible rfl), ?_⟩
      refine ⟨[], by decide, rfl, ?_⟩
      rfl
    · have z20 : decide (n ≤ 20) = false := decide_eq_false (by omega)
      have z20i : decide ((n : Int) ≤ 20) = false := decide_eq_false (by omega)
      by_cases h40 : n ≤ 40
      · have z40 : decide (n ≤ 40) = true := decide_eq_true h40
        have z40i : decide ((n : Int) ≤ 40) = true := decide_eq_true (by omega)
        by_cases h12 : m ≤ 120
        · have z12 : decide (m ≤ 120) = true := decide_eq_true h12
          have z12i : decide ((m : Int) ≤ 120) = true := decide_eq_true (by omega)
          rw [decide_eq_true ⟨h40, h12⟩] at hG
          subst hG
          (with_reducible((first|apply WO2_finw|apply WO2_fina);(conv=>lhs;simp only[go_sem, ibin, ishift, z20, z20i, z40, z40i, z12, z12i, ze])<;>rfl))
          (repeat' with_reducible first |apply qA|apply qB|apply qC|apply qD|apply qE|apply qF|(apply qG;decide)|apply qH|apply qI|apply qJ|apply qK|((first|apply qL|apply qM|apply qN|apply qO|((first|apply qP|apply qQ);decide +kernel));(conv=>lhs;simp only[go_sem, ibin, ishift])<;>rfl)|((first|apply qR|apply qS);(conv=>lhs;simp only[go_sem])<;>rfl;rfl)|((first|apply qT|apply qU);(conv=>lhs;simp only[go_sem])<;>rfl;rfl)|apply qV|apply qW|apply qX|apply qY|apply qZ)
          refine ⟨by first | exact .inr rfl | exact .inl rfl, _, _, (by (conv => lhs; simp only [go_sem, ibin, ishift]) <;> with_reducible rfl), (by (conv => lhs; simp only [go_sem, ibin, ishift]) <;> with_reducible rfl), ?_⟩
          refine ⟨[], by decide, rfl, ?_⟩
          rfl
        · have z12 : decide (m ≤ 120) = false := decide_eq_false h12
          have z12i : decide ((m : Int) ≤ 120) = false := decide_eq_false (by omega)
          rw [decide_eq_false (fun h => h12 h.2)] at hG
          subst hG
          (with_reducible((first|apply WO2_finw|apply WO2_fina);(conv=>lhs;simp only[go_sem, ibin, ishift, z20, z20i, z40, z40i, z12, z12i, ze])<;>rfl))
          (repeat' with_reducible first |apply qA|apply qB|apply qC|apply qD|apply qE|apply qF|(apply qG;decide)|apply qH|apply qI|apply qJ|apply qK|((first|apply qL|apply qM|apply qN|apply qO|((first|apply qP|apply qQ);decide +kernel));(conv=>lhs;simp only[go_sem, ibin, ishift])<;>rfl)|((first|apply qR|apply qS);(conv=>lhs;simp only[go_sem])<;>rfl;rfl)|((first|apply qT|apply qU);(conv=>lhs;simp only[go_sem])<;>rfl;rfl)|apply qV|apply qW|apply qX|apply qY|apply qZ)
          refine ⟨by first | exact .inr rfl | exact .inl rfl, _, _, (by (conv => lhs; simp only [go_sem, ibin, ishift]) <;> with_reducible rfl), (by (conv => lhs; simp only [go_sem, ibin, ishift]) <;> with_reducible rfl), ?_⟩
          refine ⟨[], by decide, rfl, ?_⟩
          rfl
      · have z40 : decide (n ≤ 40) = false := decide_eq_false h40
        have z40i : decide ((n : Int) ≤ 40) = false := decide_eq_false (by omega)
        rw [decide_eq_false (fun h => h40 h.1)] at hG
        subst hG
        (with_reducible((first|apply WO2_finw|apply WO2_fina);(conv=>lhs;simp only[go_sem, ibin, ishift, z20, z20i, z40, z40i, ze])<;>rfl))
        (repeat' with_reducible first |apply qA|apply qB|apply qC|apply qD|apply qE|apply qF|(apply qG;decide)|apply qH|apply qI|apply qJ|apply qK|((first|apply qL|apply qM|apply qN|apply qO|((first|apply qP|apply qQ);decide +kernel));(conv=>lhs;simp only[go_sem, ibin, ishift])<;>rfl)|((first|apply qR|apply qS);(conv=>lhs;simp only[go_sem])<;>rfl;rfl)|((first|apply qT|apply qU);(conv=>lhs;simp only[go_sem])<;>rfl;rfl)|apply qV|apply qW|apply qX|apply qY|apply qZ)
        refine ⟨by first | exact .inr rfl | exact .inl rfl, _, _, (by (conv => lhs; simp only [go_sem, ibin, ishift]) <;> with_reducible rfl), (by (conv => lhs; simp only [go_sem, ibin, ishift]) <;> with_reducible rfl), ?_⟩
        refine ⟨[], by decide, rfl, ?_⟩
        rfl
end Go.Proofs.YtankmcjfglbbiaaDoor.Ab
