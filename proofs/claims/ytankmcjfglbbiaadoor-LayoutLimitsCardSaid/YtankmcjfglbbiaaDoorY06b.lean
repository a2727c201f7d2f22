/- Chapter 06: Find and Out; any layout is looked at. -/
import Derived.Test.YtankmcjfglbbiaaDoorY06o
namespace Go.Proofs.YtankmcjfglbbiaaDoor.Ab
open Go
set_option linter.unusedVariables false
set_option linter.unusedSimpArgs false
variable {T : AT}
structure TabF (T : AT) : Prop extends TabG T, TabO T where
  k : TabK T
  lfind : T i_layout_Find = some (.fn c_layout_Find)
  lfind1 : T i_layout_Find_1 = some (.fn c_layout_Find_1)
  indexF : T i_slices_IndexFunc_api_Node_api_Node = some (.fn c_slices_IndexFunc_api_Node_api_Node)
  lout : T i_layout_Out = some (.fn c_layout_Out)
  awake : T i_stillagelaw06_awake = some (.spec (always (.b true)))
theorem awake_spec (c : TabF T) {f : Nat} (hT : T f = some (.spec (always (.b true)))) : Ret2 T 0 f [] [] (fun v h' => v = .b true ∧ h' = []) := always2 hT
theorem find1_spec (c : TabF T) (x : Nd) (nm : List UInt8) : Ret2 T 1 i_layout_Find_1 [.agg [.s x.name, .i .i64 x.kind, .i .i64 x.zone], .ptr 0 0] [some (.obj [.s nm])] (fun v h' => v = .b (decide (x.name = nm)) ∧ h' = [some (.obj [.s nm])]) := by
  refine Ret2_fnv c.lfind1 rfl rfl ?_
  (repeat' with_reducible first |apply qA|apply qB|apply qC|apply qD|apply qE|apply qF|(apply qG;decide)|apply qH|apply qI|apply qJ|apply qK|((first|apply qL|apply qM|apply qN|apply qO|((first|apply qP|apply qQ);decide +kernel));(conv=>lhs;simp only[go_sem, ibin, ishift])<;>rfl)|((first|apply qR|apply qS);(conv=>lhs;simp only[go_sem])<;>rfl;rfl)|((first|apply qT|apply qU);(conv=>lhs;simp only[go_sem])<;>rfl;rfl)|apply qV|apply qW|apply qX|apply qY|apply qZ)
  refine ⟨by first | exact .inr rfl | exact .inl rfl, _, _, (by (conv => lhs; simp only [go_sem, ibin, ishift]) <;> with_reducible rfl), (by (conv => lhs; simp only [go_sem, ibin, ishift]) <;> with_reducible rfl), ?_⟩
  refine ⟨[0], by decide, rfl, ?_⟩
  exact ⟨rfl, rfl⟩
theorem indexF_spec (c : TabF T) (ns : List Nd) (hl : ns.length ≤ 1000000) (nm : List UInt8) : Ret2 T 1 i_slices_IndexFunc_api_Node_api_Node [.fz 3 (ns.map cN), .fn i_layout_Find_1 [] [.ptr 0 0]] [some (.obj [.s nm])] (fun v h' => v = .i .i64 (fnd nm ns 0) ∧ h' = [some (.obj [.s nm])]) := by
  refine Ret2_fnv c.indexF rfl rfl ?_
  (repeat' with_reducible first |apply qA|apply qB|apply qC|apply qD|apply qE|apply qF|(apply qG;decide)|apply qH|apply qI|apply qJ|apply qK|((first|apply qL|apply qM|apply qN|apply qO|((first|apply qP|apply qQ);decide +kernel));(conv=>lhs;simp only[go_sem, ibin, ishift])<;>rfl)|((first|apply qR|apply qS);(conv=>lhs;simp only[go_sem])<;>rfl;rfl)|((first|apply qT|apply qU);(conv=>lhs;simp only[go_sem])<;>rfl;rfl)|apply qV|apply qW|apply qX|apply qY|apply qZ)
  refine W2_loopu (fun m u g => ∃ j, j + m = ns.length ∧ (∀ y ∈ ns.take j, y.name ≠ nm) ∧ u = [(8, .i .i64 j)] ∧ g = []) ns.length ⟨0, by omega, by simp, rfl, rfl⟩ rfl rfl ?_
  rintro m u g ⟨j, hj, hno, rfl, rfl⟩
  intro e1 h1 he1 hh1; simp only [egd, supE, hgd, supH, Nat.reduceEqDiff, Nat.reduceAdd, if_true, if_false, reduceIte] at he1 hh1; subst he1; subst hh1
  by_cases hjt : j < ns.length
  · have hjl : j < ns.length := by omega
    have hg := List.getElem?_eq_getElem hjl
    have htk : ns.take (j + 1) = ns.take j ++ [ns[j]] := by rw [List.take_add_one, List.getElem?_eq_getElem hjl]; rfl
    have hmem := List.getElem_mem hjl
    generalize ns[j] = x at hg htk hmem
    have h0 : (0 : Int) ≤ (j : Int) := by omega
    have h1 : (j : Int) < (ns.length : Int) := by omega
    have zj : decide (j < ns.length) = true := decide_eq_true hjl
    have zji : decide ((j : Int) < (ns.length : Int)) = true := decide_eq_true h1
    have wj := wS (show j < 9223372036854775807 by omega)
    (repeat' with_reducible first |apply qA|apply qB|apply qC|apply qD|apply qE|apply qF|(apply qG;decide)|apply qH|apply qI|apply qJ|apply qK|((first|apply qL|apply qM|apply qN|apply qO|((first|apply qP|apply qQ);decide +kernel));(conv=>lhs;simp only[go_sem, ibin, ishift, zj, zji])<;>rfl)|((first|apply qR|apply qS);(conv=>lhs;simp only[go_sem])<;>rfl;rfl)|((first|apply qT|apply qU);(conv=>lhs;simp only[go_sem])<;>rfl;rfl)|apply qV|apply qW|apply qX|apply qY|apply qZ)
    (with_reducible((first|apply pA|apply pB|apply pC|apply pD|apply pE|((first|apply pF|apply pG);decide +kernel));(conv=>lhs;simp only[go_sem, ibin, ishift, hg, hjl, cN, h0, h1])<;>rfl))
    refine CK_call [0] (find1_spec c x nm) (by decide) (by simp) rfl rfl rfl ?_
    rintro v h' ⟨rfl, rfl⟩
    by_cases hf : x.name = nm
    · rw [decide_eq_true hf]
      (with_reducible((first|apply WO2_finw|apply WO2_fina);(conv=>lhs;simp only[go_sem, ibin, ishift])<;>rfl))
      (repeat' with_reducible first |apply qA|apply qB|apply qC|apply qD|apply qE|apply qF|(apply qG;decide)|apply qH|apply qI|apply qJ|apply qK|((first|apply qL|apply qM|apply qN|apply qO|((first|apply qP|apply qQ);decide +kernel));(conv=>lhs;simp only[go_sem, ibin, ishift])<;>rfl)|((first|apply qR|apply qS);(conv=>lhs;simp only[go_sem])<;>rfl;rfl)|((first|apply qT|apply qU);(conv=>lhs;simp only[go_sem])<;>rfl;rfl)|apply qV|apply qW|apply qX|apply qY|apply qZ)
      refine ⟨by first | exact .inr rfl | exact .inl rfl, _, _, (by (conv => lhs; simp only [go_sem, ibin, ishift]) <;> with_reducible rfl), (by (conv => lhs; simp only [go_sem, ibin, ishift]) <;> with_reducible rfl), ?_⟩
      refine ⟨[0], by decide, rfl, ?_⟩
      rw [fnd_here hno hg hf]
      exact ⟨rfl, rfl⟩
    · rw [decide_eq_false hf]
      (with_reducible((first|apply WO2_finw|apply WO2_fina);(conv=>lhs;simp only[go_sem, ibin, ishift])<;>rfl))
      (repeat' with_reducible first |apply qA|apply qB|apply qC|apply qD|apply qE|apply qF|(apply qG;decide)|apply qH|apply qI|apply qJ|apply qK|((first|apply qL|apply qM|apply qN|apply qO|((first|apply qP|apply qQ);decide +kernel));(conv=>lhs;simp only[go_sem, ibin, ishift, wj])<;>rfl)|((first|apply qR|apply qS);(conv=>lhs;simp only[go_sem])<;>rfl;rfl)|((first|apply qT|apply qU);(conv=>lhs;simp only[go_sem])<;>rfl;rfl)|apply qV|apply qW|apply qX|apply qY|apply qZ)
      refine ⟨[0], by decide, rfl, ?_⟩
      exact ⟨ns.length - (j + 1), _, _, by omega, ⟨j + 1, by omega, fun y hy => by
        rw [htk] at hy
        rcases List.mem_append.1 hy with hy | hy
        · exact hno y hy
        · rw [List.mem_singleton.1 hy]; exact hf, rfl, rfl⟩, rfl, (by first | rfl | ((conv => lhs; simp only [go_sem, ibin, ishift]) <;> rfl))⟩
  have hje : j = ns.length := by omega
  have zj : decide (j < ns.length) = false := decide_eq_false hjt
  have zji : decide ((j : Int) < (ns.length : Int)) = false := decide_eq_false (by omega)
  (repeat' with_reducible first |apply qA|apply qB|apply qC|apply qD|apply qE|apply qF|(apply qG;decide)|apply qH|apply qI|apply qJ|apply qK|((first|apply qL|apply qM|apply qN|apply qO|((first|apply qP|apply qQ);decide +kernel));(conv=>lhs;simp only[go_sem, ibin, ishift, zj, zji])<;>rfl)|((first|apply qR|apply qS);(conv=>lhs;simp only[go_sem])<;>rfl;rfl)|((first|apply qT|apply qU);(conv=>lhs;simp only[go_sem])<;>rfl;rfl)|apply qV|apply qW|apply qX|apply qY|apply qZ)
  refine ⟨by first | exact .inr rfl | exact .inl rfl, _, _, (by (conv => lhs; simp only [go_sem, ibin, ishift]) <;> with_reducible rfl), (by (conv => lhs; simp only [go_sem, ibin, ishift]) <;> with_reducible rfl), ?_⟩
  refine ⟨[0], by decide, rfl, ?_⟩
  rw [hje, List.take_length] at hno
  rw [fnd_none hno]
  exact ⟨rfl, rfl⟩
theorem lfind_spec (c : TabF T) (l : Lay) (hl : l.ns.length ≤ 1000000) (nm : List UInt8) : Ret2 T 0 i_layout_Find [l.v, .s nm] [] (fun v h' => v = .i .i64 (fnd nm l.ns 0) ∧ h' = []) := by
  refine Ret2_fnv c.lfind rfl rfl ?_
  unfold Lay.v
  (repeat' with_reducible first |apply qA|apply qB|apply qC|apply qD|apply qE|apply qF|(apply qG;decide)|apply qH|apply qI|apply qJ|apply qK|((first|apply qL|apply qM|apply qN|apply qO|((first|apply qP|apply qQ);decide +kernel));(conv=>lhs;simp only[go_sem, ibin, ishift])<;>rfl)|((first|apply qR|apply qS);(conv=>lhs;simp only[go_sem])<;>rfl;rfl)|((first|apply qT|apply qU);(conv=>lhs;simp only[go_sem])<;>rfl;rfl)|apply qV|apply qW|apply qX|apply qY|apply qZ)
  (with_reducible((first|apply pA|apply pB|apply pC|apply pD|apply pE|((first|apply pF|apply pG);decide +kernel));(conv=>lhs;simp only[go_sem, ibin, ishift])<;>rfl))
  refine CK_call [1] (indexF_spec c l.ns hl nm) (by decide) (by simp) rfl rfl rfl ?_
  rintro v h' ⟨rfl, rfl⟩
  (with_reducible((first|apply WO2_finw|apply WO2_fina);(conv=>lhs;simp only[go_sem, ibin, ishift])<;>rfl))
  (repeat' with_reducible first |apply qA|apply qB|apply qC|apply qD|apply qE|apply qF|(apply qG;decide)|apply qH|apply qI|apply qJ|apply qK|((first|apply qL|apply qM|apply qN|apply qO|((first|apply qP|apply qQ);decide +kernel));(conv=>lhs;simp only[go_sem, ibin, ishift])<;>rfl)|((first|apply qR|apply qS);(conv=>lhs;simp only[go_sem])<;>rfl;rfl)|((first|apply qT|apply qU);(conv=>lhs;simp only[go_sem])<;>rfl;rfl)|apply qV|apply qW|apply qX|apply qY|apply qZ)
  refine ⟨by first | exact .inr rfl | exact .inl rfl, _, _, (by (conv => lhs; simp only [go_sem, ibin, ishift]) <;> with_reducible rfl), (by (conv => lhs; simp only [go_sem, ibin, ishift]) <;> with_reducible rfl), ?_⟩
  refine ⟨[], by decide, rfl, ?_⟩
  exact ⟨rfl, rfl⟩
def outK (es : List Ed) (n : Int) (j : Nat) : List Int := (List.range j).filterMap fun i => match es[i]? with | some e => if e.a = n then some ((i : Int) + 1) else none | none => none
theorem outK_succ {es : List Ed} {n : Int} {j : Nat} {e : Ed} (h : es[j]? = some e) : outK es n (j + 1) = outK es n j ++ (if e.a = n then [(j : Int) + 1] else []) := by
  rw [outK, List.range_succ, List.filterMap_append, ← outK]
  congr 1
  simp only [List.filterMap_cons, List.filterMap_nil, h]
  split <;> rename_i hh
  · split at hh
    · cases hh
    · rename_i h2; rw [if_neg h2]
  · split at hh
    · rename_i h2; rw [if_pos h2]; cases hh; rfl
    · cases hh
theorem outK_len (es : List Ed) (n : Int) (j : Nat) : (outK es n j).length ≤ j := by
  have := List.length_filterMap_le (fun i => match es[i]? with | some e => if e.a = n then some ((i : Int) + 1) else none | none => none) (List.range j)
  rw [List.length_range] at this
  exact this
theorem outK_mem {es : List Ed} {n : Int} {j : Nat} {d : Int} (h : d ∈ outK es n j) : ∃ (i : Nat) (e : Ed), i < j ∧ es[i]? = some e ∧ e.a = n ∧ d = (i : Int) + 1 := by
  obtain ⟨i, hi, hf⟩ := List.mem_filterMap.1 h
  split at hf
  · rename_i e he
    split at hf
    · rename_i h2
      cases hf
      exact ⟨i, e, List.mem_range.1 hi, he, h2, rfl⟩
    · cases hf
  · cases hf
theorem outK_srt (es : List Ed) (n : Int) : ∀ j : Nat, (outK es n j).Pairwise (· < ·)
  | 0 => List.Pairwise.nil
  | j + 1 => by
    cases h : es[j]? with
    | none =>
      have : outK es n (j + 1) = outK es n j := by
        rw [outK, List.range_succ, List.filterMap_append, ← outK]
        simp [h]
      rw [this]; exact outK_srt es n j
    | some e =>
      rw [outK_succ h]
      refine List.pairwise_append.2 ⟨outK_srt es n j, by split <;> simp, fun x hx y hy => ?_⟩
      obtain ⟨i, e', h1, _, _, rfl⟩ := outK_mem hx
      split at hy
      · rw [List.mem_singleton.1 hy]; omega
      · cases hy
def outI (l : Lay) (n : Int) : List Int := if 0 ≤ n ∧ n < (l.ns.length : Int) then outK l.es n l.es.length else []
theorem lout_spec (c : TabF T) (l : Lay) (hl : l.ns.length ≤ 1000000 ∧ l.es.length ≤ 1000000) (n : Int) : Ret2 T 0 i_layout_Out [l.v, .i .i64 n] [] (fun v h' => v = .fz 1 ((outI l n).map cI) ∧ h' = []) := by
  refine Ret2_fnv c.lout rfl rfl ?_
  unfold Lay.v
  (repeat' with_reducible first |apply qA|apply qB|apply qC|apply qD|apply qE|apply qF|(apply qG;decide)|apply qH|apply qI|apply qJ|apply qK|((first|apply qL|apply qM|apply qN|apply qO|((first|apply qP|apply qQ);decide +kernel));(conv=>lhs;simp only[go_sem, ibin, ishift])<;>rfl)|((first|apply qR|apply qS);(conv=>lhs;simp only[go_sem])<;>rfl;rfl)|((first|apply qT|apply qU);(conv=>lhs;simp only[go_sem])<;>rfl;rfl)|apply qV|apply qW|apply qX|apply qY|apply qZ)
  refine W2.wnil 5 1 rfl (by (conv => lhs; simp only [go_sem, ibin, ishift]) <;> with_reducible rfl) (by (conv => lhs; simp only [go_sem, ibin, ishift]) <;> with_reducible rfl) ?_
  (repeat' with_reducible first |apply qA|apply qB|apply qC|apply qD|apply qE|apply qF|(apply qG;decide)|apply qH|apply qI|apply qJ|apply qK|((first|apply qL|apply qM|apply qN|apply qO|((first|apply qP|apply qQ);decide +kernel));(conv=>lhs;simp only[go_sem, ibin, ishift])<;>rfl)|((first|apply qR|apply qS);(conv=>lhs;simp only[go_sem])<;>rfl;rfl)|((first|apply qT|apply qU);(conv=>lhs;simp only[go_sem])<;>rfl;rfl)|apply qV|apply qW|apply qX|apply qY|apply qZ)
  refine W2_loopu (fun m u g => ∃ (j : Nat) (W : List Int), j + m = l.es.length ∧ W = (if 0 ≤ n ∧ n < (l.ns.length : Int) then outK l.es n j else []) ∧ W.length ≤ j ∧ u = [(5, .sl 1 1 0 W.length none), (11, .i .i64 j)] ∧ g = [(1, .arr 1 (W.map cI))]) l.es.length ⟨0, [], by omega, by split <;> rfl, Nat.le_refl _, rfl, rfl⟩ rfl rfl ?_
  rintro m u g ⟨j, W, hj, hW, hWl, rfl, rfl⟩
  intro e1 h1 he1 hh1; simp only [egd, supE, hgd, supH, Nat.reduceEqDiff, Nat.reduceAdd, if_true, if_false, reduceIte] at he1 hh1; subst he1; subst hh1
  by_cases hjt : j < l.es.length
  · have hjl : j < l.es.length := by omega
    have hg := List.getElem?_eq_getElem hjl
    have htk : l.es.take (j + 1) = l.es.take j ++ [l.es[j]] := by rw [List.take_add_one, List.getElem?_eq_getElem hjl]; rfl
    have hmem := List.getElem_mem hjl
    generalize l.es[j] = x at hg htk hmem
    have h0 : (0 : Int) ≤ (j : Int) := by omega
    have h1 : (j : Int) < (l.es.length : Int) := by omega
    have zj : decide (j < l.es.length) = true := decide_eq_true hjl
    have zji : decide ((j : Int) < (l.es.length : Int)) = true := decide_eq_true h1
    have wj := wS (show j < 9223372036854775807 by omega)
    have hroom : (W.length + 1) * 8 ≤ room := by simp only [room]; omega
    have hWt : W.take W.length = W := List.take_length
    have hos := outK_succ (n := n) hg
    (repeat' with_reducible first |apply qA|apply qB|apply qC|apply qD|apply qE|apply qF|(apply qG;decide)|apply qH|apply qI|apply qJ|apply qK|((first|apply qL|apply qM|apply qN|apply qO|((first|apply qP|apply qQ);decide +kernel));(conv=>lhs;simp only[go_sem, ibin, ishift, zj, zji, hg, hjl, h0, h1, cD])<;>rfl)|((first|apply qR|apply qS);(conv=>lhs;simp only[go_sem])<;>rfl;rfl)|((first|apply qT|apply qU);(conv=>lhs;simp only[go_sem])<;>rfl;rfl)|apply qV|apply qW|apply qX|apply qY|apply qZ)
    (((first | with_reducible apply W2_sc | with_reducible apply W2_cond); ((conv => lhs; simp only [go_sem]) <;> with_reducible rfl)) <;> intro hx <;> (try rw [hx]) <;> simp only [Bool.or_eq_true, Bool.and_eq_true, decide_eq_true_eq, Bool.or_eq_false_iff, Bool.and_eq_false_iff, decide_eq_false_iff_not, Bool.not_eq_true', Bool.not_eq_false', bne_iff_ne, beq_iff_eq, not_or, not_and, Decidable.not_not, ne_eq, gt_iff_lt, ge_iff_le, Int.not_lt, Int.not_le] at hx)
    · have hW2 : W ++ [((j + 1 : Nat) : Int)] = (if 0 ≤ n ∧ n < (l.ns.length : Int) then outK l.es n (j + 1) else []) := by
        rw [if_pos (by omega), hos, if_pos (by omega), hW, if_pos (by omega)]
        congr 1
      (repeat' with_reducible first |apply qA|apply qB|apply qC|apply qD|apply qE|apply qF|(apply qG;decide)|apply qH|apply qI|apply qJ|apply qK|((first|apply qL|apply qM|apply qN|apply qO|((first|apply qP|apply qQ);decide +kernel));(conv=>lhs;simp only[go_sem, ibin, ishift, wj, hroom, hWt, Nat.le_refl])<;>rfl)|((first|apply qR|apply qS);(conv=>lhs;simp only[go_sem])<;>rfl;rfl)|((first|apply qT|apply qU);(conv=>lhs;simp only[go_sem])<;>rfl;rfl)|apply qV|apply qW|apply qX|apply qY|apply qZ)
      refine ⟨[0, 4], by decide, rfl, ?_⟩
      rw [show W.map cI ++ [[PV.i .i64 ((j + 1 : Nat) : Int)]] = (W ++ [((j + 1 : Nat) : Int)]).map cI by rw [List.map_append]; rfl, show W.length + 1 = (W ++ [((j + 1 : Nat) : Int)]).length by simp]
      exact ⟨l.es.length - (j + 1), _, _, by omega, ⟨j + 1, W ++ [((j + 1 : Nat) : Int)], by omega, hW2, by simp; omega, rfl, rfl⟩, rfl, (by first | rfl | ((conv => lhs; simp only [go_sem, ibin, ishift]) <;> rfl))⟩
    · have hW2 : W = (if 0 ≤ n ∧ n < (l.ns.length : Int) then outK l.es n (j + 1) else []) := by
        rw [hW]
        split
        · rw [hos, if_neg (by omega), List.append_nil]
        · rfl
      (repeat' with_reducible first |apply qA|apply qB|apply qC|apply qD|apply qE|apply qF|(apply qG;decide)|apply qH|apply qI|apply qJ|apply qK|((first|apply qL|apply qM|apply qN|apply qO|((first|apply qP|apply qQ);decide +kernel));(conv=>lhs;simp only[go_sem, ibin, ishift, wj])<;>rfl)|((first|apply qR|apply qS);(conv=>lhs;simp only[go_sem])<;>rfl;rfl)|((first|apply qT|apply qU);(conv=>lhs;simp only[go_sem])<;>rfl;rfl)|apply qV|apply qW|apply qX|apply qY|apply qZ)
      refine ⟨[0, 1], by decide, rfl, ?_⟩
      exact ⟨l.es.length - (j + 1), _, _, by omega, ⟨j + 1, W, by omega, hW2, by omega, rfl, rfl⟩, rfl, (by first | rfl | ((conv => lhs; simp only [go_sem, ibin, ishift]) <;> rfl))⟩
  have hje : j = l.es.length := by omega
  have zj : decide (j < l.es.length) = false := decide_eq_false hjt
  have zji : decide ((j : Int) < (l.es.length : Int)) = false := decide_eq_false (by omega)
  subst hje
  rw [show outI l n = W from hW.symm]
  refine W2.wfrz 1 rfl (by (conv => lhs; simp only [go_sem, ibin, ishift]) <;> with_reducible rfl) (by (conv => lhs; simp only [go_sem, ibin, ishift]) <;> with_reducible rfl) ?_
  (repeat' with_reducible first |apply qA|apply qB|apply qC|apply qD|apply qE|apply qF|(apply qG;decide)|apply qH|apply qI|apply qJ|apply qK|((first|apply qL|apply qM|apply qN|apply qO|((first|apply qP|apply qQ);decide +kernel));(conv=>lhs;simp only[go_sem, ibin, ishift, zj, zji])<;>rfl)|((first|apply qR|apply qS);(conv=>lhs;simp only[go_sem])<;>rfl;rfl)|((first|apply qT|apply qU);(conv=>lhs;simp only[go_sem])<;>rfl;rfl)|apply qV|apply qW|apply qX|apply qY|apply qZ)
  refine ⟨by first | exact .inr rfl | exact .inl rfl, _, _, (by (conv => lhs; simp only [go_sem, ibin, ishift]) <;> with_reducible rfl), (by (conv => lhs; simp only [go_sem, ibin, ishift]) <;> with_reducible rfl), ?_⟩
  refine ⟨[], by decide, rfl, ?_⟩
  exact ⟨rfl, rfl⟩
theorem good_any (c : TabF T) (l : Lay) (hs : ∀ x ∈ l.ns, x.name.length ≤ 9223372036854775807) (hl : l.ns.length ≤ 9223372036854775807 ∧ l.es.length ≤ 9223372036854775807) : Ret2 T 0 i_stillageref06_Good [l.v] [] (fun v h' => v = .b l.good ∧ h' = []) := by
  by_cases hsz : 1 ≤ l.ns.length ∧ l.ns.length ≤ 40 ∧ l.es.length ≤ 120
  · exact good_spec c.toTabG l (by omega) hs
  obtain ⟨ns, es⟩ := l
  simp only at hsz hl
  refine Ret2_fnv c.good rfl rfl ?_
  unfold Lay.v
  simp only
  (repeat' with_reducible first |apply qA|apply qB|apply qC|apply qD|apply qE|apply qF|(apply qG;decide)|apply qH|apply qI|apply qJ|apply qK|((first|apply qL|apply qM|apply qN|apply qO|((first|apply qP|apply qQ);decide +kernel));(conv=>lhs;simp only[go_sem, ibin, ishift])<;>rfl)|((first|apply qR|apply qS);(conv=>lhs;simp only[go_sem])<;>rfl;rfl)|((first|apply qT|apply qU);(conv=>lhs;simp only[go_sem])<;>rfl;rfl)|apply qV|apply qW|apply qX|apply qY|apply qZ)
  rw [show (decide ((ns.length : Int) < 1) || decide ((ns.length : Int) > 40) || decide ((es.length : Int) > 120)) = true by
    simp only [Bool.or_eq_true, decide_eq_true_eq]; omega]
  (repeat' with_reducible first |apply qA|apply qB|apply qC|apply qD|apply qE|apply qF|(apply qG;decide)|apply qH|apply qI|apply qJ|apply qK|((first|apply qL|apply qM|apply qN|apply qO|((first|apply qP|apply qQ);decide +kernel));(conv=>lhs;simp only[go_sem, ibin, ishift])<;>rfl)|((first|apply qR|apply qS);(conv=>lhs;simp only[go_sem])<;>rfl;rfl)|((first|apply qT|apply qU);(conv=>lhs;simp only[go_sem])<;>rfl;rfl)|apply qV|apply qW|apply qX|apply qY|apply qZ)
  refine ⟨by first | exact .inr rfl | exact .inl rfl, _, _, (by (conv => lhs; simp only [go_sem, ibin, ishift]) <;> with_reducible rfl), (by (conv => lhs; simp only [go_sem, ibin, ishift]) <;> with_reducible rfl), ?_⟩
  refine ⟨[], by decide, rfl, ?_⟩
  exact ⟨by rw [good_size hsz]; rfl, rfl⟩
end Go.Proofs.YtankmcjfglbbiaaDoor.Ab
