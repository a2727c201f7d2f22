/- Chapter 05: the document's sender: acknowledged. -/
import Derived.Test.YtadbipeachcekaaY05n
namespace Go.Proofs.Ytadbipeachcekaa.Ab
open Go
set_option linter.unusedVariables false
set_option linter.unusedSimpArgs false
variable {T : AT}
theorem ixR_none {f q : Int} : ∀ {l : List Pn} {j : Nat}, (∀ y ∈ l, num f y.n ≠ q) → ixR f q l j = -1
  | [], _, _ => rfl
  | x :: l, j, h => by rw [ixR, if_neg (h x (by simp)), ixR_none (fun y hy => h y (by simp [hy]))]
theorem rack_spec (c : TabR05 T) (r : Rs) (hb : r.dead = false → r.Bd) (q : Int) : Ret2 T 0 i_stillageref05_Ack [r.v, .i .u16 q] [] (fun v h' => v = .tup [(r.ack q).1.v, .i .i64 (r.ack q).2] ∧ h' = []) := by
  refine Ret2_fnv c.rack rfl rfl ?_
  unfold Rs.ack
  cases hd : r.dead with
  | true =>
    rw [if_pos rfl]
    unfold Rs.v
    rw [hd]
    (repeat' with_reducible first |apply qA|apply qB|apply qC|apply qD|apply qE|apply qF|(apply qG;decide)|apply qH|apply qI|apply qJ|apply qK|((first|apply qL|apply qM|apply qN|apply qO|((first|apply qP|apply qQ);decide +kernel));(conv=>lhs;simp only[go_sem, ibin, ishift])<;>rfl)|((first|apply qR|apply qS);(conv=>lhs;simp only[go_sem])<;>rfl;rfl)|((first|apply qT|apply qU);(conv=>lhs;simp only[go_sem])<;>rfl;rfl)|apply qV|apply qW|apply qX|apply qY|apply qZ)
    refine ⟨by first | exact .inr rfl | exact .inl rfl, _, _, (by (conv => lhs; simp only [go_sem, ibin, ishift]) <;> with_reducible rfl), (by (conv => lhs; simp only [go_sem, ibin, ishift]) <;> with_reducible rfl), ?_⟩
    refine ⟨[], by decide, rfl, ?_⟩
    exact ⟨rfl, rfl⟩
  | false =>
  have hb := hb hd
  rw [if_neg (by decide)]
  have hl := hb.len
  have ha := hb.all_
  have hc1 := hb.c1
  have hsq := fun n h0 h1 => rseq_spec c r hb.f0 hb.f1 n h0 h1
  have hv : r.v = .agg [.i .i64 r.win, .i .i64 r.pau, .i .i64 r.tim, .i .u16 r.first, .i .i64 r.count, .fz 4 (r.opn.map cPn), .b false] := by rw [Rs.v, hd]
  rw [hv] at hsq ⊢
  (repeat' with_reducible first |apply qA|apply qB|apply qC|apply qD|apply qE|apply qF|(apply qG;decide)|apply qH|apply qI|apply qJ|apply qK|((first|apply qL|apply qM|apply qN|apply qO|((first|apply qP|apply qQ);decide +kernel));(conv=>lhs;simp only[go_sem, ibin, ishift])<;>rfl)|((first|apply qR|apply qS);(conv=>lhs;simp only[go_sem])<;>rfl;rfl)|((first|apply qT|apply qU);(conv=>lhs;simp only[go_sem])<;>rfl;rfl)|apply qV|apply qW|apply qX|apply qY|apply qZ)
  refine W2_loopu (fun m u g => ∃ j, j + m = r.opn.length ∧ (∀ y ∈ r.opn.take j, num r.first y.n ≠ q) ∧ u = [(13, .i .i64 j)] ∧ g = []) r.opn.length ⟨0, by omega, by simp, rfl, rfl⟩ rfl rfl ?_
  rintro m u g ⟨j, hj, hno, rfl, rfl⟩
  intro e1 h1 he1 hh1; simp only [egd, supE, hgd, supH, Nat.reduceEqDiff, Nat.reduceAdd, if_true, if_false, reduceIte] at he1 hh1; subst he1; subst hh1
  by_cases hjt : j < r.opn.length
  · have hjl : j < r.opn.length := by omega
    have hg := List.getElem?_eq_getElem hjl
    have htk : r.opn.take (j + 1) = r.opn.take j ++ [r.opn[j]] := by rw [List.take_add_one, List.getElem?_eq_getElem hjl]; rfl
    have hmem := List.getElem_mem hjl
    generalize r.opn[j] = x at hg htk hmem
    have hx := ha x (List.mem_of_getElem? hg)
    have h0 : (0 : Int) ≤ (j : Int) := by omega
    have h1 : (j : Int) < (r.opn.length : Int) := by omega
    have zj : decide (j < r.opn.length) = true := decide_eq_true hjl
    have zji : decide ((j : Int) < (r.opn.length : Int)) = true := decide_eq_true h1
    have wj := wS (show j < 9223372036854775807 by omega)
    (repeat' with_reducible first |apply qA|apply qB|apply qC|apply qD|apply qE|apply qF|(apply qG;decide)|apply qH|apply qI|apply qJ|apply qK|((first|apply qL|apply qM|apply qN|apply qO|((first|apply qP|apply qQ);decide +kernel));(conv=>lhs;simp only[go_sem, ibin, ishift, zj, zji])<;>rfl)|((first|apply qR|apply qS);(conv=>lhs;simp only[go_sem])<;>rfl;rfl)|((first|apply qT|apply qU);(conv=>lhs;simp only[go_sem])<;>rfl;rfl)|apply qV|apply qW|apply qX|apply qY|apply qZ)
    (with_reducible((first|apply pA|apply pB|apply pC|apply pD|apply pE|((first|apply pF|apply pG);decide +kernel));(conv=>lhs;simp only[go_sem, ibin, ishift, hg, hjl, cPn, h0, h1])<;>rfl))
    refine CK_pure (hsq x.n hx.1 (by omega)) rfl ?_
    rintro v h' ⟨rfl, rfl⟩
    by_cases hq : num r.first x.n = q
    · have zq : decide (num r.first x.n = q) = true := decide_eq_true hq
      rw [ixR_at hg hq hno, if_neg (by omega), Nat.zero_add, Int.toNat_natCast]
      have hv2 : (⟨r.win, r.pau, r.tim, r.first, r.count, woutR r.opn j, false⟩ : Rs).v = .agg [.i .i64 r.win, .i .i64 r.pau, .i .i64 r.tim, .i .u16 r.first, .i .i64 r.count, .fz 4 ((woutR r.opn j).map cPn), .b false] := rfl
      simp only
      rw [hv2]
      have hj2 : j ≤ r.opn.length := by omega
      have hj3 : (j : Int) ≤ (r.opn.length : Int) := by omega
      have hj4 : (0 : Int) ≤ ((j + 1 : Nat) : Int) := by omega
      have hj5 : j + 1 ≤ r.opn.length := by omega
      have hj6 : ((j + 1 : Nat) : Int) ≤ (r.opn.length : Int) := by omega
      have hta : r.opn.take r.opn.length = r.opn := List.take_length
      have ht1 : (r.opn.take j).length = j := by rw [List.length_take]; omega
      have hd1 : (r.opn.drop (j + 1)).length = r.opn.length - (j + 1) := List.length_drop
      have htt : (r.opn.take j).take j = r.opn.take j := List.take_of_length_le (by omega)
      have hr1 : j * 40 ≤ room := by simp only [room]; omega
      have hr1' : (0 + j) * 40 ≤ room := by simp only [room]; omega
      have hr2 : (j + (r.opn.length - (j + 1))) * 40 ≤ room := by simp only [room]; omega
      (with_reducible((first|apply WO2_finw|apply WO2_fina);(conv=>lhs;simp only[go_sem, ibin, ishift, zq])<;>rfl))
      (repeat' with_reducible first |apply qA|apply qB|apply qC|apply qD|apply qE|apply qF|(apply qG;decide)|apply qH|apply qI|apply qJ|apply qK|apply qX|((first|apply qR|apply qS);(conv=>lhs;simp only[go_sem])<;>rfl;rfl)|((first|apply qT|apply qU);(conv=>lhs;simp only[go_sem])<;>rfl;rfl)|apply qZ|apply qY|apply qW)
      (with_reducible first | apply W2_sregH [0] [false, false, true, false, false, false, false, true, false] | apply W2_regH [0] [false, false, true, false, false, false, false, true, false])
      · decide
      · decide
      · rfl
      ((conv => lhs; simp only [go_sem, ibin, ishift, h0, hj2, hj3, hj4, hj5, hj6, wj, hta, ht1, hd1, htt, hr1, hr1', hr2, Nat.le_refl]) <;> with_reducible rfl)
      refine EH_go ?_
      have hap : List.map cPn (r.opn.take j) ++ List.map cPn (r.opn.drop (j + 1)) = List.map cPn (woutR r.opn j) := by rw [woutR, List.map_append]
      have hsl : (woutR r.opn j).length = j + (r.opn.length - (j + 1)) := by rw [woutR, List.length_append, ht1, hd1]
      have hst : (woutR r.opn j).take (j + (r.opn.length - (j + 1))) = woutR r.opn j := List.take_of_length_le (by omega)
      rw [hap]
      (repeat' with_reducible first |apply qA|apply qB|apply qC|apply qD|apply qE|apply qF|(apply qG;decide)|apply qH|apply qI|apply qJ|apply qK|apply qX|((first|apply qR|apply qS);(conv=>lhs;simp only[go_sem])<;>rfl;rfl)|((first|apply qT|apply qU);(conv=>lhs;simp only[go_sem])<;>rfl;rfl)|apply qZ|apply qY|apply qW)
      refine W2.wfrz 4 rfl (by (conv => lhs; simp only [go_sem, ibin, ishift, hsl, hst, Nat.le_refl]) <;> with_reducible rfl) (by (conv => lhs; simp only [go_sem, ibin, ishift, hsl, hst, Nat.le_refl]) <;> with_reducible rfl) ?_
      (repeat' with_reducible first |apply qA|apply qB|apply qC|apply qD|apply qE|apply qF|(apply qG;decide)|apply qH|apply qI|apply qJ|apply qK|((first|apply qL|apply qM|apply qN|apply qO|((first|apply qP|apply qQ);decide +kernel));(conv=>lhs;simp only[go_sem, ibin, ishift])<;>rfl)|((first|apply qR|apply qS);(conv=>lhs;simp only[go_sem])<;>rfl;rfl)|((first|apply qT|apply qU);(conv=>lhs;simp only[go_sem])<;>rfl;rfl)|apply qV|apply qW|apply qX|apply qY|apply qZ)
      refine ⟨by first | exact .inr rfl | exact .inl rfl, _, _, (by (conv => lhs; simp only [go_sem, ibin, ishift]) <;> with_reducible rfl), (by (conv => lhs; simp only [go_sem, ibin, ishift]) <;> with_reducible rfl), ?_⟩
      refine ⟨[], by decide, rfl, ?_⟩
      exact ⟨rfl, rfl⟩
    · have zq : decide (num r.first x.n = q) = false := decide_eq_false hq
      (with_reducible((first|apply WO2_finw|apply WO2_fina);(conv=>lhs;simp only[go_sem, ibin, ishift, zq])<;>rfl))
      (repeat' with_reducible first |apply qA|apply qB|apply qC|apply qD|apply qE|apply qF|(apply qG;decide)|apply qH|apply qI|apply qJ|apply qK|((first|apply qL|apply qM|apply qN|apply qO|((first|apply qP|apply qQ);decide +kernel));(conv=>lhs;simp only[go_sem, ibin, ishift, wj])<;>rfl)|((first|apply qR|apply qS);(conv=>lhs;simp only[go_sem])<;>rfl;rfl)|((first|apply qT|apply qU);(conv=>lhs;simp only[go_sem])<;>rfl;rfl)|apply qV|apply qW|apply qX|apply qY|apply qZ)
      refine ⟨[0, 1], by decide, rfl, ?_⟩
      exact ⟨r.opn.length - (j + 1), _, _, by omega, ⟨j + 1, by omega, fun f hf => by
        rw [htk] at hf
        rcases List.mem_append.1 hf with hf | hf
        · exact hno f hf
        · rw [List.mem_singleton.1 hf]; exact hq, rfl, rfl⟩, rfl, (by first | rfl | ((conv => lhs; simp only [go_sem, ibin, ishift]) <;> rfl))⟩
  have hje : j = r.opn.length := by omega
  have zj : decide (j < r.opn.length) = false := decide_eq_false hjt
  have zji : decide ((j : Int) < (r.opn.length : Int)) = false := decide_eq_false (by omega)
  rw [hje, List.take_length] at hno
  rw [ixR_none hno, if_pos (by decide)]
  simp only
  rw [hv]
  (repeat' with_reducible first |apply qA|apply qB|apply qC|apply qD|apply qE|apply qF|(apply qG;decide)|apply qH|apply qI|apply qJ|apply qK|((first|apply qL|apply qM|apply qN|apply qO|((first|apply qP|apply qQ);decide +kernel));(conv=>lhs;simp only[go_sem, ibin, ishift, zj, zji])<;>rfl)|((first|apply qR|apply qS);(conv=>lhs;simp only[go_sem])<;>rfl;rfl)|((first|apply qT|apply qU);(conv=>lhs;simp only[go_sem])<;>rfl;rfl)|apply qV|apply qW|apply qX|apply qY|apply qZ)
  refine ⟨by first | exact .inr rfl | exact .inl rfl, _, _, (by (conv => lhs; simp only [go_sem, ibin, ishift]) <;> with_reducible rfl), (by (conv => lhs; simp only [go_sem, ibin, ishift]) <;> with_reducible rfl), ?_⟩
  refine ⟨[], by decide, rfl, ?_⟩
  exact ⟨rfl, rfl⟩
theorem rackTo_spec (c : TabR05 T) (r : Rs) (hb : r.dead = false → r.Bd) (q : Int) (hq0 : 0 ≤ q) (hq1 : q < 65536) : Ret2 T 0 i_stillageref05_AckTo [r.v, .i .u16 q] [] (fun v h' => v = .tup [(r.ackTo q).1.v, .i .i64 (r.ackTo q).2.1, .i .i64 (r.ackTo q).2.2] ∧ h' = []) := by
  refine Ret2_fnv c.rackTo rfl rfl ?_
  unfold Rs.ackTo
  cases hd : r.dead with
  | true =>
    rw [if_pos rfl]
    unfold Rs.v
    rw [hd]
    (repeat' with_reducible first |apply qA|apply qB|apply qC|apply qD|apply qE|apply qF|(apply qG;decide)|apply qH|apply qI|apply qJ|apply qK|((first|apply qL|apply qM|apply qN|apply qO|((first|apply qP|apply qQ);decide +kernel));(conv=>lhs;simp only[go_sem, ibin, ishift])<;>rfl)|((first|apply qR|apply qS);(conv=>lhs;simp only[go_sem])<;>rfl;rfl)|((first|apply qT|apply qU);(conv=>lhs;simp only[go_sem])<;>rfl;rfl)|apply qV|apply qW|apply qX|apply qY|apply qZ)
    refine ⟨by first | exact .inr rfl | exact .inl rfl, _, _, (by (conv => lhs; simp only [go_sem, ibin, ishift]) <;> with_reducible rfl), (by (conv => lhs; simp only [go_sem, ibin, ishift]) <;> with_reducible rfl), ?_⟩
    refine ⟨[], by decide, rfl, ?_⟩
    exact ⟨rfl, rfl⟩
  | false =>
  have hb := hb hd
  rw [if_neg (by decide)]
  have hl := hb.len
  have ha := hb.all_
  have hc1 := hb.c1
  have hfr := hb.fr
  have hsq := fun n h0 h1 => rseq_spec c r hb.f0 hb.f1 n h0 h1
  have hv : r.v = .agg [.i .i64 r.win, .i .i64 r.pau, .i .i64 r.tim, .i .u16 r.first, .i .i64 r.count, .fz 4 (r.opn.map cPn), .b false] := by rw [Rs.v, hd]
  rw [hv] at hsq ⊢
  have hnn := nof_num r q hq0 hq1
  have hnl := nof_le r q
  have hf0 : 0 ≤ r.front ∧ r.front ≤ r.count := by
    unfold Rs.front
    cases ho : r.opn with
    | nil => exact ⟨hb.c0, Int.le_refl _⟩
    | cons x l => have := ha x (by rw [ho]; simp); exact ⟨this.1, Int.le_of_lt this.2⟩
  have hfull : (r.opn.length = 0 ∧ r.front = r.count) ∨ ∃ x, 0 < r.opn.length ∧ r.opn[0]? = some x ∧ r.front = x.n := by
    unfold Rs.front
    cases ho : r.opn with
    | nil => exact .inl ⟨rfl, rfl⟩
    | cons x l => exact .inr ⟨x, by simp, rfl, rfl⟩
  generalize r.nof q = N at hnn hnl ⊢
  rcases hfull with ⟨hl0, hf⟩ | ⟨x, hl0, hg, hf⟩
  case' inl =>
    have z2 : decide (r.opn.length > 0) = false := decide_eq_false (by omega)
    have z2i : decide ((r.opn.length : Int) > 0) = false := decide_eq_false (by omega)
    (repeat' with_reducible first |apply qA|apply qB|apply qC|apply qD|apply qE|apply qF|(apply qG;decide)|apply qH|apply qI|apply qJ|apply qK|((first|apply qL|apply qM|apply qN|apply qO|((first|apply qP|apply qQ);decide +kernel));(conv=>lhs;simp only[go_sem, ibin, ishift, z2, z2i])<;>rfl)|((first|apply qR|apply qS);(conv=>lhs;simp only[go_sem])<;>rfl;rfl)|((first|apply qT|apply qU);(conv=>lhs;simp only[go_sem])<;>rfl;rfl)|apply qV|apply qW|apply qX|apply qY|apply qZ)
  case' inr =>
    have z2 : decide (r.opn.length > 0) = true := decide_eq_true hl0
    have z2i : decide ((r.opn.length : Int) > 0) = true := decide_eq_true (by omega)
    have i1 : (0 : Int) < (r.opn.length : Int) := by omega
    (repeat' with_reducible first |apply qA|apply qB|apply qC|apply qD|apply qE|apply qF|(apply qG;decide)|apply qH|apply qI|apply qJ|apply qK|((first|apply qL|apply qM|apply qN|apply qO|((first|apply qP|apply qQ);decide +kernel));(conv=>lhs;simp only[go_sem, ibin, ishift, z2, z2i, hg, hl0, cPn, i1])<;>rfl)|((first|apply qR|apply qS);(conv=>lhs;simp only[go_sem])<;>rfl;rfl)|((first|apply qT|apply qU);(conv=>lhs;simp only[go_sem])<;>rfl;rfl)|apply qV|apply qW|apply qX|apply qY|apply qZ)
  all_goals
    refine W2_loopu (fun m u g => ∃ n : Int, r.front ≤ n ∧ n ≤ N ∧ n ≤ r.count + 1 ∧ m = (N + 1 - n).toNat ∧ u = [(8, .i .i64 n)] ∧ g = []) (N + 1 - r.front).toNat ⟨_, by omega, by omega, by omega, by omega, rfl, rfl⟩ rfl rfl ?_
    rintro m u g ⟨n, hn0, hn1, hn2, hm, rfl, rfl⟩
    intro e1 h1 he1 hh1; simp only [egd, supE, hgd, supH, Nat.reduceEqDiff, Nat.reduceAdd, if_true, if_false, reduceIte] at he1 hh1; subst he1; subst hh1
    by_cases hnc : n ≤ r.count
    rotate_left
    · have zn : decide (n ≤ r.count) = false := decide_eq_false hnc
      rw [if_pos (show N > r.count by omega)]
      simp only
      rw [hv]
      (repeat' with_reducible first |apply qA|apply qB|apply qC|apply qD|apply qE|apply qF|(apply qG;decide)|apply qH|apply qI|apply qJ|apply qK|((first|apply qL|apply qM|apply qN|apply qO|((first|apply qP|apply qQ);decide +kernel));(conv=>lhs;simp only[go_sem, ibin, ishift, zn])<;>rfl)|((first|apply qR|apply qS);(conv=>lhs;simp only[go_sem])<;>rfl;rfl)|((first|apply qT|apply qU);(conv=>lhs;simp only[go_sem])<;>rfl;rfl)|apply qV|apply qW|apply qX|apply qY|apply qZ)
      refine ⟨by first | exact .inr rfl | exact .inl rfl, _, _, (by (conv => lhs; simp only [go_sem, ibin, ishift]) <;> with_reducible rfl), (by (conv => lhs; simp only [go_sem, ibin, ishift]) <;> with_reducible rfl), ?_⟩
      refine ⟨[], by decide, rfl, ?_⟩
      exact ⟨rfl, rfl⟩
    have zn : decide (n ≤ r.count) = true := decide_eq_true hnc
    (repeat' with_reducible first |apply qA|apply qB|apply qC|apply qD|apply qE|apply qF|(apply qG;decide)|apply qH|apply qI|apply qJ|apply qK|((first|apply qL|apply qM|apply qN|apply qO|((first|apply qP|apply qQ);decide +kernel));(conv=>lhs;simp only[go_sem, ibin, ishift, zn])<;>rfl)|((first|apply qR|apply qS);(conv=>lhs;simp only[go_sem])<;>rfl;rfl)|((first|apply qT|apply qU);(conv=>lhs;simp only[go_sem])<;>rfl;rfl)|apply qV|apply qW|apply qX|apply qY|apply qZ)
    (with_reducible((first|apply pA|apply pB|apply pC|apply pD|apply pE|((first|apply pF|apply pG);decide +kernel));(conv=>lhs;simp only[go_sem, ibin, ishift])<;>rfl))
    refine CK_pure (hsq n (by omega) (by omega)) rfl ?_
    rintro v h' ⟨rfl, rfl⟩
    by_cases hN : n = N
    rotate_left
    · have zq : decide (num r.first n = q) = false := decide_eq_false fun h => hN (num_inj (h.trans hnn.symm) (by omega) (by omega))
      have wn := wi (n + 1) (by omega) (by omega)
      (with_reducible((first|apply WO2_finw|apply WO2_fina);(conv=>lhs;simp only[go_sem, ibin, ishift, zq])<;>rfl))
      (repeat' with_reducible first |apply qA|apply qB|apply qC|apply qD|apply qE|apply qF|(apply qG;decide)|apply qH|apply qI|apply qJ|apply qK|((first|apply qL|apply qM|apply qN|apply qO|((first|apply qP|apply qQ);decide +kernel));(conv=>lhs;simp only[go_sem, ibin, ishift, wn])<;>rfl)|((first|apply qR|apply qS);(conv=>lhs;simp only[go_sem])<;>rfl;rfl)|((first|apply qT|apply qU);(conv=>lhs;simp only[go_sem])<;>rfl;rfl)|apply qV|apply qW|apply qX|apply qY|apply qZ)
      refine ⟨[0, 1], by decide, rfl, ?_⟩
      exact ⟨(N + 1 - (n + 1)).toNat, _, _, by omega, ⟨n + 1, by omega, by omega, by omega, rfl, rfl, rfl⟩, rfl, (by first | rfl | ((conv => lhs; simp only [go_sem, ibin, ishift]) <;> rfl))⟩
    subst hN
    have zq : decide (num r.first n = q) = true := decide_eq_true hnn
    rw [if_neg (show ¬(n > r.count) by omega)]
    (with_reducible((first|apply WO2_finw|apply WO2_fina);(conv=>lhs;simp only[go_sem, ibin, ishift, zq])<;>rfl))
    ((repeat' with_reducible first |apply qA|apply qB|apply qC|apply qD|apply qE|apply qF|(apply qG;decide)|apply qH|apply qI|apply qJ|apply qK|apply qX|((first|apply qR|apply qS);(conv=>lhs;simp only[go_sem])<;>rfl;rfl)|((first|apply qT|apply qU);(conv=>lhs;simp only[go_sem])<;>rfl;rfl)|apply qZ|apply qY|apply qW);with_reducible((first|apply qL|apply qM|apply qN|apply qO|((first|apply qP|apply qQ);decide +kernel));(conv=>lhs;simp only[go_sem, ibin, ishift])<;>rfl))
    refine W2.wnil 9 4 rfl (by (conv => lhs; simp only [go_sem, ibin, ishift]) <;> with_reducible rfl) (by (conv => lhs; simp only [go_sem, ibin, ishift]) <;> with_reducible rfl) ?_
    (repeat' with_reducible first |apply qA|apply qB|apply qC|apply qD|apply qE|apply qF|(apply qG;decide)|apply qH|apply qI|apply qJ|apply qK|((first|apply qL|apply qM|apply qN|apply qO|((first|apply qP|apply qQ);decide +kernel));(conv=>lhs;simp only[go_sem, ibin, ishift])<;>rfl)|((first|apply qR|apply qS);(conv=>lhs;simp only[go_sem])<;>rfl;rfl)|((first|apply qT|apply qU);(conv=>lhs;simp only[go_sem])<;>rfl;rfl)|apply qV|apply qW|apply qX|apply qY|apply qZ)
    refine W2_loopu (fun m u g => ∃ (j : Nat) (W : List Pn), j + m = r.opn.length ∧ W = leftR n (r.opn.take j) ∧ W.length ≤ j ∧ u = [(9, .sl 4 2 0 W.length none), (41, .i .i64 j)] ∧ g = [(2, .arr 4 (W.map cPn))]) r.opn.length ⟨0, [], by omega, rfl, Nat.le_refl _, rfl, rfl⟩ rfl rfl ?_
    rintro m u g ⟨j, W, hj, hW, hWl, rfl, rfl⟩
    intro e1 h1 he1 hh1; simp only [egd, supE, hgd, supH, Nat.reduceEqDiff, Nat.reduceAdd, if_true, if_false, reduceIte] at he1 hh1; subst he1; subst hh1
    by_cases hjt : j < r.opn.length
    · have hjl : j < r.opn.length := by omega
      have hg := List.getElem?_eq_getElem hjl
      have htk : r.opn.take (j + 1) = r.opn.take j ++ [r.opn[j]] := by rw [List.take_add_one, List.getElem?_eq_getElem hjl]; rfl
      have hmem := List.getElem_mem hjl
      generalize r.opn[j] = x at hg htk hmem
      have h0 : (0 : Int) ≤ (j : Int) := by omega
      have h1 : (j : Int) < (r.opn.length : Int) := by omega
      have zj : decide (j < r.opn.length) = true := decide_eq_true hjl
      have zji : decide ((j : Int) < (r.opn.length : Int)) = true := decide_eq_true h1
      have wj := wS (show j < 9223372036854775807 by omega)
      have hroom : (W.length + 1) * 40 ≤ room := by simp only [room]; omega
      have hWt : W.take W.length = W := List.take_length
      by_cases hxn : x.n ≥ n
      · have zx : decide (x.n ≥ n) = true := decide_eq_true hxn
        (repeat' with_reducible first |apply qA|apply qB|apply qC|apply qD|apply qE|apply qF|(apply qG;decide)|apply qH|apply qI|apply qJ|apply qK|((first|apply qL|apply qM|apply qN|apply qO|((first|apply qP|apply qQ);decide +kernel));(conv=>lhs;simp only[go_sem, ibin, ishift, zj, zji, hg, hjl, h0, h1, cPn, zx, wj, hroom, hWt, Nat.le_refl])<;>rfl)|((first|apply qR|apply qS);(conv=>lhs;simp only[go_sem])<;>rfl;rfl)|((first|apply qT|apply qU);(conv=>lhs;simp only[go_sem])<;>rfl;rfl)|apply qV|apply qW|apply qX|apply qY|apply qZ)
        refine ⟨[0, 1, 4], by decide, rfl, ?_⟩
        rw [show W.map cPn ++ [[PV.i .i64 x.n, PV.s x.data, PV.i .i64 x.sent, PV.i .i64 x.since]] = (W ++ [x]).map cPn by rw [List.map_append]; rfl, show W.length + 1 = (W ++ [x]).length by simp]
        exact ⟨r.opn.length - (j + 1), _, _, by omega, ⟨j + 1, W ++ [x], by omega, by rw [hW, leftR, leftR, htk, List.filter_append, List.filter_cons_of_pos (p := fun y : Pn => decide (y.n ≥ n)) zx]; rfl, by simp; omega, rfl, rfl⟩, rfl, (by first | rfl | ((conv => lhs; simp only [go_sem, ibin, ishift]) <;> rfl))⟩
      · have zx : decide (x.n ≥ n) = false := decide_eq_false hxn
        (repeat' with_reducible first |apply qA|apply qB|apply qC|apply qD|apply qE|apply qF|(apply qG;decide)|apply qH|apply qI|apply qJ|apply qK|((first|apply qL|apply qM|apply qN|apply qO|((first|apply qP|apply qQ);decide +kernel));(conv=>lhs;simp only[go_sem, ibin, ishift, zj, zji, hg, hjl, h0, h1, cPn, zx, wj])<;>rfl)|((first|apply qR|apply qS);(conv=>lhs;simp only[go_sem])<;>rfl;rfl)|((first|apply qT|apply qU);(conv=>lhs;simp only[go_sem])<;>rfl;rfl)|apply qV|apply qW|apply qX|apply qY|apply qZ)
        refine ⟨[0, 1, 2], by decide, rfl, ?_⟩
        exact ⟨r.opn.length - (j + 1), _, _, by omega, ⟨j + 1, W, by omega, by rw [hW, leftR, leftR, htk, List.filter_append, List.filter_cons_of_neg (p := fun y : Pn => decide (y.n ≥ n)) (by rw [zx]; decide)]; simp, by omega, rfl, rfl⟩, rfl, (by first | rfl | ((conv => lhs; simp only [go_sem, ibin, ishift]) <;> rfl))⟩
    have hje : j = r.opn.length := by omega
    have zj : decide (j < r.opn.length) = false := decide_eq_false hjt
    have zji : decide ((j : Int) < (r.opn.length : Int)) = false := decide_eq_false (by omega)
    rw [hje, List.take_length] at hW
    rw [← hW]
    have ww : IntKind.i64.wrap ((r.opn.length : Int) - (W.length : Int)) = (r.opn.length : Int) - (W.length : Int) := wi _ (by omega) (by omega)
    refine W2.wfrz 2 rfl (by (conv => lhs; simp only [go_sem, ibin, ishift]) <;> with_reducible rfl) (by (conv => lhs; simp only [go_sem, ibin, ishift]) <;> with_reducible rfl) ?_
    (repeat' with_reducible first |apply qA|apply qB|apply qC|apply qD|apply qE|apply qF|(apply qG;decide)|apply qH|apply qI|apply qJ|apply qK|((first|apply qL|apply qM|apply qN|apply qO|((first|apply qP|apply qQ);decide +kernel));(conv=>lhs;simp only[go_sem, ibin, ishift, zj, zji, ww])<;>rfl)|((first|apply qR|apply qS);(conv=>lhs;simp only[go_sem])<;>rfl;rfl)|((first|apply qT|apply qU);(conv=>lhs;simp only[go_sem])<;>rfl;rfl)|apply qV|apply qW|apply qX|apply qY|apply qZ)
    refine ⟨by first | exact .inr rfl | exact .inl rfl, _, _, (by (conv => lhs; simp only [go_sem, ibin, ishift]) <;> with_reducible rfl), (by (conv => lhs; simp only [go_sem, ibin, ishift]) <;> with_reducible rfl), ?_⟩
    refine ⟨[], by decide, rfl, ?_⟩
    exact ⟨rfl, rfl⟩
end Go.Proofs.Ytadbipeachcekaa.Ab
