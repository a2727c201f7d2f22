/- Chapter 17: the mirror: what is done. -/
import Derived.Test.YtjijhkmimjolhaaY17c
import Derived.Test.YtjijhkmimjolhaaMQ
namespace Go.Proofs.Ytjijhkmimjolhaa.Ab
open Go
set_option linter.unusedVariables false
set_option linter.unusedSimpArgs false
variable {T : AT}
theorem cI_set (l : List Int) (i : Nat) (x : Int) : (l.set i x).map cI = (l.map cI).set i [PV.i .i64 x] := by rw [List.map_set]; rfl
theorem cMd_set (l : List Md) (i : Nat) (x : Md) : (l.set i x).map cMd = (l.map cMd).set i [PV.i .i64 x.tote, PV.i .i64 x.seq, PV.b x.ever, PV.b x.down] := by rw [List.map_set]; rfl
def qsM (f : Nat) : Bool := decide (f = i_mirror_Mirror_Where) || decide (f = i_mirror_noTote)
theorem calmM (c : TabM T) : Calm T qsM := fun f h => by
  simp only [qsM, Bool.or_eq_true, decide_eq_true_eq] at h
  rcases h with rfl | rfl
  · exact ⟨_, c.where_, by decide⟩
  · exact ⟨_, c.noTote, by decide⟩
theorem send1_spec (c : TabM T) (y : Md) (t : Int) : Ret2 T 1 i_mirror_Mirror_Send_1 [.agg [.i .i64 y.tote, .i .i64 y.seq, .b y.ever, .b y.down], .ptr 0 0] [some (.obj [.i .i64 t])] (fun v h' => v = .b (decide (y.tote = t)) ∧ h' = [some (.obj [.i .i64 t])]) := by
  refine Ret2_fnv c.send1 rfl rfl ?_
  (repeat' with_reducible first |apply qA|apply qB|apply qC|apply qD|apply qE|apply qF|(apply qG;decide)|apply qH|apply qI|apply qJ|apply qK|((first|apply qL|apply qM|apply qN|apply qO|((first|apply qP|apply qQ);decide +kernel));(conv=>lhs;simp only[go_sem, ibin, ishift])<;>rfl)|((first|apply qR|apply qS);(conv=>lhs;simp only[go_sem])<;>rfl;rfl)|((first|apply qT|apply qU);(conv=>lhs;simp only[go_sem])<;>rfl;rfl)|apply qV|apply qW|apply qX|apply qY|apply qZ)
  refine ⟨by first | exact .inr rfl | exact .inl rfl, _, _, (by (conv => lhs; simp only [go_sem, ibin, ishift]) <;> with_reducible rfl), (by (conv => lhs; simp only [go_sem, ibin, ishift]) <;> with_reducible rfl), ?_⟩
  refine ⟨[0], by decide, rfl, ?_⟩
  exact ⟨rfl, rfl⟩
def hasT (l : List Md) (t : Int) : Bool := l.any fun y => decide (y.tote = t)
theorem indexT_spec (c : TabM T) (l : List Md) (hl : l.length ≤ 1000000) (t : Int) : Ret2 T 2 i_slices_IndexFunc_mirror_device_mirror_device [.sl 4 0 0 l.length none, .fn i_mirror_Mirror_Send_1 [] [.ptr 1 0]] [some (.arr 4 (l.map cMd)), some (.obj [.i .i64 t])]
    (fun v h' => ∃ i : Int, v = .i .i64 i ∧ (0 ≤ i ↔ hasT l t = true) ∧ h' = [some (.arr 4 (l.map cMd)), some (.obj [.i .i64 t])]) := by
  refine Ret2_fnv c.index rfl rfl ?_
  (repeat' with_reducible first |apply qA|apply qB|apply qC|apply qD|apply qE|apply qF|(apply qG;decide)|apply qH|apply qI|apply qJ|apply qK|((first|apply qL|apply qM|apply qN|apply qO|((first|apply qP|apply qQ);decide +kernel));(conv=>lhs;simp only[go_sem, ibin, ishift])<;>rfl)|((first|apply qR|apply qS);(conv=>lhs;simp only[go_sem])<;>rfl;rfl)|((first|apply qT|apply qU);(conv=>lhs;simp only[go_sem])<;>rfl;rfl)|apply qV|apply qW|apply qX|apply qY|apply qZ)
  refine W2_loopu (fun m u g => ∃ j, j + m = l.length ∧ hasT (l.take j) t = false ∧ u = [(8, .i .i64 j)] ∧ g = []) l.length ⟨0, by omega, rfl, rfl, rfl⟩ rfl rfl ?_
  rintro m u g ⟨j, hj, hno, rfl, rfl⟩
  intro e1 h1 he1 hh1; simp only [egd, supE, hgd, supH, Nat.reduceEqDiff, Nat.reduceAdd, if_true, if_false, reduceIte] at he1 hh1; subst he1; subst hh1
  (repeat' with_reducible first |apply qA|apply qB|apply qC|apply qD|apply qE|apply qF|(apply qG;decide)|apply qH|apply qI|apply qJ|apply qK|((first|apply qL|apply qM|apply qN|apply qO|((first|apply qP|apply qQ);decide +kernel));(conv=>lhs;simp only[go_sem, ibin, ishift])<;>rfl)|((first|apply qR|apply qS);(conv=>lhs;simp only[go_sem])<;>rfl;rfl)|((first|apply qT|apply qU);(conv=>lhs;simp only[go_sem])<;>rfl;rfl)|apply qV|apply qW|apply qX|apply qY|apply qZ)
  (((first | with_reducible apply W2_sc | with_reducible apply W2_cond); ((conv => lhs; simp only [go_sem]) <;> with_reducible rfl)) <;> intro hx <;> (try rw [hx]) <;> simp only [Bool.or_eq_true, Bool.and_eq_true, decide_eq_true_eq, Bool.or_eq_false_iff, Bool.and_eq_false_iff, decide_eq_false_iff_not, Bool.not_eq_true', Bool.not_eq_false', bne_iff_ne, beq_iff_eq, not_or, not_and, Decidable.not_not, ne_eq, gt_iff_lt, ge_iff_le, Int.not_lt, Int.not_le] at hx)
  · have hjl : j < l.length := by omega
    have hg := List.getElem?_eq_getElem hjl
    have htk : l.take (j + 1) = l.take j ++ [l[j]] := by rw [List.take_add_one, List.getElem?_eq_getElem hjl]; rfl
    have hmem := List.getElem_mem hjl
    generalize l[j] = y at hg htk hmem
    have h0 : (0 : Int) ≤ (j : Int) := by omega
    have h1 : (j : Int) < (l.length : Int) := by omega
    (repeat' with_reducible first |apply qA|apply qB|apply qC|apply qD|apply qE|apply qF|(apply qG;decide)|apply qH|apply qI|apply qJ|apply qK|((first|apply qL|apply qM|apply qN|apply qO|((first|apply qP|apply qQ);decide +kernel));(conv=>lhs;simp only[go_sem, ibin, ishift])<;>rfl)|((first|apply qR|apply qS);(conv=>lhs;simp only[go_sem])<;>rfl;rfl)|((first|apply qT|apply qU);(conv=>lhs;simp only[go_sem])<;>rfl;rfl)|apply qV|apply qW|apply qX|apply qY|apply qZ)
    (with_reducible((first|apply pA|apply pB|apply pC|apply pD|apply pE|((first|apply pF|apply pG);decide +kernel));(conv=>lhs;simp only[go_sem, ibin, ishift, hg, hjl, cMd, h0, h1])<;>rfl))
    refine CK_call [1] (send1_spec c y t) (by decide) (by simp) rfl rfl rfl ?_
    rintro v h' ⟨rfl, rfl⟩
    by_cases hb : y.tote = t
    · rw [decide_eq_true hb]
      (with_reducible((first|apply WO2_finw|apply WO2_fina);(conv=>lhs;simp only[go_sem, ibin, ishift])<;>rfl))
      (repeat' with_reducible first |apply qA|apply qB|apply qC|apply qD|apply qE|apply qF|(apply qG;decide)|apply qH|apply qI|apply qJ|apply qK|((first|apply qL|apply qM|apply qN|apply qO|((first|apply qP|apply qQ);decide +kernel));(conv=>lhs;simp only[go_sem, ibin, ishift])<;>rfl)|((first|apply qR|apply qS);(conv=>lhs;simp only[go_sem])<;>rfl;rfl)|((first|apply qT|apply qU);(conv=>lhs;simp only[go_sem])<;>rfl;rfl)|apply qV|apply qW|apply qX|apply qY|apply qZ)
      refine ⟨by first | exact .inr rfl | exact .inl rfl, _, _, (by (conv => lhs; simp only [go_sem, ibin, ishift]) <;> with_reducible rfl), (by (conv => lhs; simp only [go_sem, ibin, ishift]) <;> with_reducible rfl), ?_⟩
      refine ⟨[0, 1], by decide, rfl, ?_⟩
      exact ⟨_, rfl, ⟨fun _ => List.any_eq_true.2 ⟨y, hmem, decide_eq_true hb⟩, fun _ => h0⟩, rfl⟩
    · rw [decide_eq_false hb]
      (with_reducible((first|apply WO2_finw|apply WO2_fina);(conv=>lhs;simp only[go_sem, ibin, ishift])<;>rfl))
      (repeat' with_reducible first |apply qA|apply qB|apply qC|apply qD|apply qE|apply qF|(apply qG;decide)|apply qH|apply qI|apply qJ|apply qK|((first|apply qL|apply qM|apply qN|apply qO|((first|apply qP|apply qQ);decide +kernel));(conv=>lhs;simp only[go_sem, ibin, ishift, wS (show j < 9223372036854775807 by omega)])<;>rfl)|((first|apply qR|apply qS);(conv=>lhs;simp only[go_sem])<;>rfl;rfl)|((first|apply qT|apply qU);(conv=>lhs;simp only[go_sem])<;>rfl;rfl)|apply qV|apply qW|apply qX|apply qY|apply qZ)
      refine ⟨[0, 1], by decide, rfl, ?_⟩
      exact ⟨l.length - (j + 1), _, _, by omega, ⟨j + 1, by omega, by rw [htk, hasT, List.any_append]; simp only [hasT] at hno; simp [hno, hb], rfl, rfl⟩, rfl, (by first | rfl | ((conv => lhs; simp only [go_sem, ibin, ishift]) <;> rfl))⟩
  · have : j = l.length := by omega
    subst this
    rw [List.take_length] at hno
    (repeat' with_reducible first |apply qA|apply qB|apply qC|apply qD|apply qE|apply qF|(apply qG;decide)|apply qH|apply qI|apply qJ|apply qK|((first|apply qL|apply qM|apply qN|apply qO|((first|apply qP|apply qQ);decide +kernel));(conv=>lhs;simp only[go_sem, ibin, ishift])<;>rfl)|((first|apply qR|apply qS);(conv=>lhs;simp only[go_sem])<;>rfl;rfl)|((first|apply qT|apply qU);(conv=>lhs;simp only[go_sem])<;>rfl;rfl)|apply qV|apply qW|apply qX|apply qY|apply qZ)
    refine ⟨by first | exact .inr rfl | exact .inl rfl, _, _, (by (conv => lhs; simp only [go_sem, ibin, ishift]) <;> with_reducible rfl), (by (conv => lhs; simp only [go_sem, ibin, ishift]) <;> with_reducible rfl), ?_⟩
    refine ⟨[0, 1], by decide, rfl, ?_⟩
    exact ⟨-1, rfl, ⟨fun h => by omega, fun h => by rw [hno] at h; cases h⟩, rfl⟩
theorem contains_spec (c : TabM T) (l : List Md) (hl : l.length ≤ 1000000) (t : Int) : Ret2 T 2 i_slices_ContainsFunc_mirror_device_mirror_device [.sl 4 0 0 l.length none, .fn i_mirror_Mirror_Send_1 [] [.ptr 1 0]] [some (.arr 4 (l.map cMd)), some (.obj [.i .i64 t])]
    (fun v h' => v = .b (hasT l t) ∧ h' = [some (.arr 4 (l.map cMd)), some (.obj [.i .i64 t])]) := by
  refine Ret2_fnv c.contains rfl rfl ?_
  (repeat' with_reducible first |apply qA|apply qB|apply qC|apply qD|apply qE|apply qF|(apply qG;decide)|apply qH|apply qI|apply qJ|apply qK|((first|apply qL|apply qM|apply qN|apply qO|((first|apply qP|apply qQ);decide +kernel));(conv=>lhs;simp only[go_sem, ibin, ishift])<;>rfl)|((first|apply qR|apply qS);(conv=>lhs;simp only[go_sem])<;>rfl;rfl)|((first|apply qT|apply qU);(conv=>lhs;simp only[go_sem])<;>rfl;rfl)|apply qV|apply qW|apply qX|apply qY|apply qZ)
  (with_reducible((first|apply pA|apply pB|apply pC|apply pD|apply pE|((first|apply pF|apply pG);decide +kernel));(conv=>lhs;simp only[go_sem, ibin, ishift])<;>rfl))
  refine CK_call [0, 1] (indexT_spec c l hl t) (by decide) (by simp) rfl rfl rfl ?_
  rintro v h' ⟨i, rfl, hi, rfl⟩
  have hd : decide (i ≥ 0) = hasT l t := by
    cases h : hasT l t with
    | true => exact decide_eq_true (hi.2 h)
    | false => exact decide_eq_false fun h2 => by rw [hi.1 h2] at h; cases h
  (with_reducible((first|apply WO2_finw|apply WO2_fina);(conv=>lhs;simp only[go_sem, ibin, ishift, hd])<;>rfl))
  (repeat' with_reducible first |apply qA|apply qB|apply qC|apply qD|apply qE|apply qF|(apply qG;decide)|apply qH|apply qI|apply qJ|apply qK|((first|apply qL|apply qM|apply qN|apply qO|((first|apply qP|apply qQ);decide +kernel));(conv=>lhs;simp only[go_sem, ibin, ishift])<;>rfl)|((first|apply qR|apply qS);(conv=>lhs;simp only[go_sem])<;>rfl;rfl)|((first|apply qT|apply qU);(conv=>lhs;simp only[go_sem])<;>rfl;rfl)|apply qV|apply qW|apply qX|apply qY|apply qZ)
  refine ⟨by first | exact .inr rfl | exact .inl rfl, _, _, (by (conv => lhs; simp only [go_sem, ibin, ishift]) <;> with_reducible rfl), (by (conv => lhs; simp only [go_sem, ibin, ishift]) <;> with_reducible rfl), ?_⟩
  refine ⟨[0, 1], by decide, rfl, ?_⟩
  exact ⟨rfl, rfl⟩
def Mi.put (m : Mi) (t n : Int) : Mi × Int :=
  if noTote t = true ∨ m.noNode n = true then (m, 1)
  else if m.w[t.toNat]?.getD 0 > 0 then (m, 2)
  else if m.taken n = true then (m, 100)
  else (⟨m.es, m.w.set t.toNat (n + 1), m.at_.set n.toNat t, m.ds⟩, 0)
theorem put_spec (c : TabM T) (m : Mi) (hk : m.Ok) (t n : Int) : Ret2 T 3 i_mirror_Mirror_Put [.ptr 0 0, .i .i64 t, .i .i64 n] m.h (fun v h' => v = .i .i64 (m.put t n).2 ∧ h' = (m.put t n).1.h) := by
  refine Ret2_fnv c.put rfl rfl ?_
  have hw := hk.wl
  unfold Mi.h
  (repeat' with_reducible first |apply qA|apply qB|apply qC|apply qD|apply qE|apply qF|(apply qG;decide)|apply qH|apply qI|apply qJ|apply qK|((first|apply qL|apply qM|apply qN|apply qO|((first|apply qP|apply qQ);decide +kernel));(conv=>lhs;simp only[go_sem, ibin, ishift])<;>rfl)|((first|apply qR|apply qS);(conv=>lhs;simp only[go_sem])<;>rfl;rfl)|((first|apply qT|apply qU);(conv=>lhs;simp only[go_sem])<;>rfl;rfl)|apply qV|apply qW|apply qX|apply qY|apply qZ)
  (with_reducible((first|apply pA|apply pB|apply pC|apply pD|apply pE|((first|apply pF|apply pG);decide +kernel));(conv=>lhs;simp only[go_sem, ibin, ishift])<;>rfl))
  refine CK_pure (noTote_spec c t) rfl ?_
  rintro v h' ⟨rfl, rfl⟩
  cases ht : noTote t with
  | true =>
    have hm : m.put t n = (m, 1) := by rw [Mi.put, if_pos (.inl ht)]
    ((with_reducible first | apply WO2_finl | apply WO2_finlq); ((conv => lhs; simp only [go_sem, ibin, ishift]) <;> with_reducible rfl))
    (repeat' with_reducible first |apply qA|apply qB|apply qC|apply qD|apply qE|apply qF|(apply qG;decide)|apply qH|apply qI|apply qJ|apply qK|((first|apply qL|apply qM|apply qN|apply qO|((first|apply qP|apply qQ);decide +kernel));(conv=>lhs;simp only[go_sem, ibin, ishift])<;>rfl)|((first|apply qR|apply qS);(conv=>lhs;simp only[go_sem])<;>rfl;rfl)|((first|apply qT|apply qU);(conv=>lhs;simp only[go_sem])<;>rfl;rfl)|apply qV|apply qW|apply qX|apply qY|apply qZ)
    refine ⟨by first | exact .inr rfl | exact .inl rfl, _, _, (by (conv => lhs; simp only [go_sem, ibin, ishift]) <;> with_reducible rfl), (by (conv => lhs; simp only [go_sem, ibin, ishift]) <;> with_reducible rfl), ?_⟩
    refine ⟨[0, 1, 2], by decide, rfl, ?_⟩
    exact ⟨by rw [hm]; rfl, by rw [hm]; exact (by first | rfl | (simp only [go_sem, Mi.h]; done) | (simp only [go_sem, Mi.h] <;> rfl))⟩
  | false =>
    (with_reducible((first|apply pA|apply pB|apply pC|apply pD|apply pE|((first|apply pF|apply pG);decide +kernel));(conv=>lhs;simp only[go_sem, ibin, ishift])<;>rfl))
    refine CK_call [0, 1, 2] (noNode_spec c m hw n) (by decide) (by simp) rfl rfl (by first | rfl | (simp only [go_sem, Mi.h]; done) | (simp only [go_sem, Mi.h] <;> rfl)) ?_
    rintro v h' ⟨rfl, rfl⟩
    unfold Mi.h
    cases hn : m.noNode n with
    | true =>
      have hm : m.put t n = (m, 1) := by rw [Mi.put, if_pos (.inr hn)]
      (with_reducible((first|apply WO2_finw|apply WO2_fina);(conv=>lhs;simp only[go_sem, ibin, ishift])<;>rfl))
      (repeat' with_reducible first |apply qA|apply qB|apply qC|apply qD|apply qE|apply qF|(apply qG;decide)|apply qH|apply qI|apply qJ|apply qK|((first|apply qL|apply qM|apply qN|apply qO|((first|apply qP|apply qQ);decide +kernel));(conv=>lhs;simp only[go_sem, ibin, ishift])<;>rfl)|((first|apply qR|apply qS);(conv=>lhs;simp only[go_sem])<;>rfl;rfl)|((first|apply qT|apply qU);(conv=>lhs;simp only[go_sem])<;>rfl;rfl)|apply qV|apply qW|apply qX|apply qY|apply qZ)
      refine ⟨by first | exact .inr rfl | exact .inl rfl, _, _, (by (conv => lhs; simp only [go_sem, ibin, ishift]) <;> with_reducible rfl), (by (conv => lhs; simp only [go_sem, ibin, ishift]) <;> with_reducible rfl), ?_⟩
      refine ⟨[0, 1, 2], by decide, rfl, ?_⟩
      exact ⟨by rw [hm]; rfl, by rw [hm]; exact (by first | rfl | (simp only [go_sem, Mi.h]; done) | (simp only [go_sem, Mi.h] <;> rfl))⟩
    | false =>
      have hc1 : ¬(noTote t = true ∨ m.noNode n = true) := by rw [ht, hn]; decide
      have hr : ¬(t < 1 ∨ 30 < t) := by simpa [noTote] using ht
      have h0 : 0 ≤ t := by omega
      have h1 : t < 31 := by omega
      have h2 : t.toNat < m.w.length := by omega
      obtain ⟨v, hv⟩ : ∃ v, m.w[t.toNat]? = some v := ⟨_, List.getElem?_eq_getElem h2⟩
      have h3 : 1 + t.toNat = t.toNat + 1 := by omega
      have hr2 : ¬(n < 0 ∨ (m.at_.length : Int) ≤ n) := by simpa [Mi.noNode] using hn
      have n0 : 0 ≤ n := by omega
      have n1 : n < (m.at_.length : Int) := by omega
      have n2 : n.toNat < m.at_.length := by omega
      obtain ⟨y, hy⟩ : ∃ x, m.at_[n.toNat]? = some x := ⟨_, List.getElem?_eq_getElem n2⟩
      have hal := hk.al
      have wn : IntKind.i64.wrap (n + 1) = n + 1 := wi _ (by omega) (by omega)
      (with_reducible((first|apply WO2_finw|apply WO2_fina);(conv=>lhs;simp only[go_sem, ibin, ishift])<;>rfl))
      (repeat' with_reducible first |apply qA|apply qB|apply qC|apply qD|apply qE|apply qF|(apply qG;decide)|apply qH|apply qI|apply qJ|apply qK|((first|apply qL|apply qM|apply qN|apply qO|((first|apply qP|apply qQ);decide +kernel));(conv=>lhs;simp only[go_sem, ibin, ishift, h0, h1, h3, mw_get hv])<;>rfl)|((first|apply qR|apply qS);(conv=>lhs;simp only[go_sem])<;>rfl;rfl)|((first|apply qT|apply qU);(conv=>lhs;simp only[go_sem])<;>rfl;rfl)|apply qV|apply qW|apply qX|apply qY|apply qZ)
      (((first | with_reducible apply W2_sc | with_reducible apply W2_cond); ((conv => lhs; simp only [go_sem]) <;> with_reducible rfl)) <;> intro hx <;> (try rw [hx]) <;> simp only [Bool.or_eq_true, Bool.and_eq_true, decide_eq_true_eq, Bool.or_eq_false_iff, Bool.and_eq_false_iff, decide_eq_false_iff_not, Bool.not_eq_true', Bool.not_eq_false', bne_iff_ne, beq_iff_eq, not_or, not_and, Decidable.not_not, ne_eq, gt_iff_lt, ge_iff_le, Int.not_lt, Int.not_le] at hx)
      · have hm : m.put t n = (m, 2) := by rw [Mi.put, if_neg hc1, hv]; simp only [Option.getD_some]; rw [if_pos hx]
        (repeat' with_reducible first |apply qA|apply qB|apply qC|apply qD|apply qE|apply qF|(apply qG;decide)|apply qH|apply qI|apply qJ|apply qK|((first|apply qL|apply qM|apply qN|apply qO|((first|apply qP|apply qQ);decide +kernel));(conv=>lhs;simp only[go_sem, ibin, ishift])<;>rfl)|((first|apply qR|apply qS);(conv=>lhs;simp only[go_sem])<;>rfl;rfl)|((first|apply qT|apply qU);(conv=>lhs;simp only[go_sem])<;>rfl;rfl)|apply qV|apply qW|apply qX|apply qY|apply qZ)
        refine ⟨by first | exact .inr rfl | exact .inl rfl, _, _, (by (conv => lhs; simp only [go_sem, ibin, ishift]) <;> with_reducible rfl), (by (conv => lhs; simp only [go_sem, ibin, ishift]) <;> with_reducible rfl), ?_⟩
        refine ⟨[0, 1, 2], by decide, rfl, ?_⟩
        exact ⟨by rw [hm]; rfl, by rw [hm]; exact (by first | rfl | (simp only [go_sem, Mi.h]; done) | (simp only [go_sem, Mi.h] <;> rfl))⟩
      · have hc2 : ¬(m.w[t.toNat]?.getD 0 > 0) := by rw [hv]; simpa using hx
        (repeat' with_reducible first |apply qA|apply qB|apply qC|apply qD|apply qE|apply qF|(apply qG;decide)|apply qH|apply qI|apply qJ|apply qK|((first|apply qL|apply qM|apply qN|apply qO|((first|apply qP|apply qQ);decide +kernel));(conv=>lhs;simp only[go_sem, ibin, ishift])<;>rfl)|((first|apply qR|apply qS);(conv=>lhs;simp only[go_sem])<;>rfl;rfl)|((first|apply qT|apply qU);(conv=>lhs;simp only[go_sem])<;>rfl;rfl)|apply qV|apply qW|apply qX|apply qY|apply qZ)
        (with_reducible((first|apply pA|apply pB|apply pC|apply pD|apply pE|((first|apply pF|apply pG);decide +kernel));(conv=>lhs;simp only[go_sem, ibin, ishift])<;>rfl))
        refine CK_call [0, 1, 2] (taken_spec c m hk n) (by decide) (by simp) rfl rfl (by first | rfl | (simp only [go_sem, Mi.h]; done) | (simp only [go_sem, Mi.h] <;> rfl)) ?_
        rintro v h' ⟨rfl, rfl⟩
        unfold Mi.h
        cases hb : m.taken n with
        | true =>
          have hm : m.put t n = (m, 100) := by rw [Mi.put, if_neg hc1, if_neg hc2, if_pos hb]
          (with_reducible((first|apply WO2_finw|apply WO2_fina);(conv=>lhs;simp only[go_sem, ibin, ishift])<;>rfl))
          (repeat' with_reducible first |apply qA|apply qB|apply qC|apply qD|apply qE|apply qF|(apply qG;decide)|apply qH|apply qI|apply qJ|apply qK|((first|apply qL|apply qM|apply qN|apply qO|((first|apply qP|apply qQ);decide +kernel));(conv=>lhs;simp only[go_sem, ibin, ishift])<;>rfl)|((first|apply qR|apply qS);(conv=>lhs;simp only[go_sem])<;>rfl;rfl)|((first|apply qT|apply qU);(conv=>lhs;simp only[go_sem])<;>rfl;rfl)|apply qV|apply qW|apply qX|apply qY|apply qZ)
          refine ⟨by first | exact .inr rfl | exact .inl rfl, _, _, (by (conv => lhs; simp only [go_sem, ibin, ishift]) <;> with_reducible rfl), (by (conv => lhs; simp only [go_sem, ibin, ishift]) <;> with_reducible rfl), ?_⟩
          refine ⟨[0, 1, 2], by decide, rfl, ?_⟩
          exact ⟨by rw [hm]; rfl, by rw [hm]; exact (by first | rfl | (simp only [go_sem, Mi.h]; done) | (simp only [go_sem, Mi.h] <;> rfl))⟩
        | false =>
          have hm : m.put t n = (⟨m.es, m.w.set t.toNat (n + 1), m.at_.set n.toNat t, m.ds⟩, 0) := by rw [Mi.put, if_neg hc1, if_neg hc2, if_neg (by rw [hb]; decide)]
          have h4 : t.toNat + 1 + 1 ≤ 34 := by omega
          (with_reducible((first|apply WO2_finw|apply WO2_fina);(conv=>lhs;simp only[go_sem, ibin, ishift])<;>rfl))
          (repeat' with_reducible first |apply qA|apply qB|apply qC|apply qD|apply qE|apply qF|(apply qG;decide)|apply qH|apply qI|apply qJ|apply qK|((first|apply qL|apply qM|apply qN|apply qO|((first|apply qP|apply qQ);decide +kernel));(conv=>lhs;simp only[go_sem, ibin, ishift, h0, h1, h3, mw_get hv, mw_31 hw, n0, n1, n2, hy, cI, wn, hw, h4, mw_set h2])<;>rfl)|((first|apply qR|apply qS);(conv=>lhs;simp only[go_sem])<;>rfl;rfl)|((first|apply qT|apply qU);(conv=>lhs;simp only[go_sem])<;>rfl;rfl)|apply qV|apply qW|apply qX|apply qY|apply qZ)
          refine ⟨by first | exact .inr rfl | exact .inl rfl, _, _, (by (conv => lhs; simp only [go_sem, ibin, ishift]) <;> with_reducible rfl), (by (conv => lhs; simp only [go_sem, ibin, ishift]) <;> with_reducible rfl), ?_⟩
          refine ⟨[0, 1, 2], by decide, rfl, ?_⟩
          rw [hm]
          refine ⟨rfl, ?_⟩
          simp only [List.length_set, cI_set, cMd_set]
          exact (by first | rfl | ((conv => lhs; simp only [go_sem, ibin, ishift]) <;> rfl))
def Mi.send (m : Mi) (d t s : Int) : Mi × Int :=
  if noTote t = true ∨ m.noDev d = true ∨ s < 0 ∨ 65535 < s then (m, 1)
  else match m.ds[d.toNat]?, m.es[(d - 1).toNat]? with
  | some x, some e =>
    if x.down = true ∨ x.tote > 0 then (m, 140)
    else if m.loc t ≠ e.a ∨ hasT m.ds t = true then (m, 160)
    else if m.taken e.b = true then (m, 100)
    else (⟨m.es, m.w, m.at_, m.ds.set d.toNat ⟨t, s, true, x.down⟩⟩, 0)
  | _, _ => (m, 1)
theorem send_spec (c : TabM T) (m : Mi) (hk : m.Ok) (d t s : Int) : Ret2 T 3 i_mirror_Mirror_Send [.ptr 0 0, .i .i64 d, .i .i64 t, .i .i64 s] m.h (fun v h' => v = .i .i64 (m.send d t s).2 ∧ h' = (m.send d t s).1.h) := by
  refine Ret2_fnv c.send rfl rfl ?_
  have hw := hk.wl
  unfold Mi.h
  (repeat' with_reducible first |apply qA|apply qB|apply qC|apply qD|apply qE|apply qF|(apply qG;decide)|apply qH|apply qI|apply qJ|apply qK|((first|apply qL|apply qM|apply qN|apply qO|((first|apply qP|apply qQ);decide +kernel));(conv=>lhs;simp only[go_sem, ibin, ishift])<;>rfl)|((first|apply qR|apply qS);(conv=>lhs;simp only[go_sem])<;>rfl;rfl)|((first|apply qT|apply qU);(conv=>lhs;simp only[go_sem])<;>rfl;rfl)|apply qV|apply qW|apply qX|apply qY|apply qZ)
  (with_reducible((first|apply pA|apply pB|apply pC|apply pD|apply pE|((first|apply pF|apply pG);decide +kernel));(conv=>lhs;simp only[go_sem, ibin, ishift])<;>rfl))
  refine CK_pure (noTote_spec c t) rfl ?_
  rintro v h' ⟨rfl, rfl⟩
  cases ht : noTote t with
  | true =>
    have hm : m.send d t s = (m, 1) := by rw [Mi.send, if_pos (.inl ht)]
    ((with_reducible first | apply WO2_finl | apply WO2_finlq); ((conv => lhs; simp only [go_sem, ibin, ishift]) <;> with_reducible rfl))
    (repeat' with_reducible first |apply qA|apply qB|apply qC|apply qD|apply qE|apply qF|(apply qG;decide)|apply qH|apply qI|apply qJ|apply qK|((first|apply qL|apply qM|apply qN|apply qO|((first|apply qP|apply qQ);decide +kernel));(conv=>lhs;simp only[go_sem, ibin, ishift])<;>rfl)|((first|apply qR|apply qS);(conv=>lhs;simp only[go_sem])<;>rfl;rfl)|((first|apply qT|apply qU);(conv=>lhs;simp only[go_sem])<;>rfl;rfl)|apply qV|apply qW|apply qX|apply qY|apply qZ)
    refine ⟨by first | exact .inr rfl | exact .inl rfl, _, _, (by (conv => lhs; simp only [go_sem, ibin, ishift]) <;> with_reducible rfl), (by (conv => lhs; simp only [go_sem, ibin, ishift]) <;> with_reducible rfl), ?_⟩
    refine ⟨[0, 1, 2], by decide, rfl, ?_⟩
    exact ⟨by rw [hm]; rfl, by rw [hm]; exact (by first | rfl | (simp only [go_sem, Mi.h]; done) | (simp only [go_sem, Mi.h] <;> rfl))⟩
  | false =>
    (with_reducible((first|apply pA|apply pB|apply pC|apply pD|apply pE|((first|apply pF|apply pG);decide +kernel));(conv=>lhs;simp only[go_sem, ibin, ishift])<;>rfl))
    refine CK_call [0, 1, 2] (noDev_spec c m hw d) (by decide) (by simp) rfl rfl (by first | rfl | (simp only [go_sem, Mi.h]; done) | (simp only [go_sem, Mi.h] <;> rfl)) ?_
    rintro v h' ⟨rfl, rfl⟩
    unfold Mi.h
    cases hn : m.noDev d with
    | true =>
      have hm : m.send d t s = (m, 1) := by rw [Mi.send, if_pos (.inr (.inl hn))]
      ((with_reducible first | apply WO2_finl | apply WO2_finlq); ((conv => lhs; simp only [go_sem, ibin, ishift]) <;> with_reducible rfl))
      (repeat' with_reducible first |apply qA|apply qB|apply qC|apply qD|apply qE|apply qF|(apply qG;decide)|apply qH|apply qI|apply qJ|apply qK|((first|apply qL|apply qM|apply qN|apply qO|((first|apply qP|apply qQ);decide +kernel));(conv=>lhs;simp only[go_sem, ibin, ishift])<;>rfl)|((first|apply qR|apply qS);(conv=>lhs;simp only[go_sem])<;>rfl;rfl)|((first|apply qT|apply qU);(conv=>lhs;simp only[go_sem])<;>rfl;rfl)|apply qV|apply qW|apply qX|apply qY|apply qZ)
      refine ⟨by first | exact .inr rfl | exact .inl rfl, _, _, (by (conv => lhs; simp only [go_sem, ibin, ishift]) <;> with_reducible rfl), (by (conv => lhs; simp only [go_sem, ibin, ishift]) <;> with_reducible rfl), ?_⟩
      refine ⟨[0, 1, 2], by decide, rfl, ?_⟩
      exact ⟨by rw [hm]; rfl, by rw [hm]; exact (by first | rfl | (simp only [go_sem, Mi.h]; done) | (simp only [go_sem, Mi.h] <;> rfl))⟩
    | false =>
      by_cases hs : s < 0 ∨ 65535 < s
      · have hm : m.send d t s = (m, 1) := by rw [Mi.send, if_pos (.inr (.inr hs))]
        (with_reducible((first|apply WO2_finw|apply WO2_fina);(conv=>lhs;simp only[go_sem, ibin, ishift])<;>rfl))
        rw [show (decide (s < 0) || decide (s > 65535)) = true by simp only [Bool.or_eq_true, decide_eq_true_eq]; omega]
        (repeat' with_reducible first |apply qA|apply qB|apply qC|apply qD|apply qE|apply qF|(apply qG;decide)|apply qH|apply qI|apply qJ|apply qK|((first|apply qL|apply qM|apply qN|apply qO|((first|apply qP|apply qQ);decide +kernel));(conv=>lhs;simp only[go_sem, ibin, ishift])<;>rfl)|((first|apply qR|apply qS);(conv=>lhs;simp only[go_sem])<;>rfl;rfl)|((first|apply qT|apply qU);(conv=>lhs;simp only[go_sem])<;>rfl;rfl)|apply qV|apply qW|apply qX|apply qY|apply qZ)
        refine ⟨by first | exact .inr rfl | exact .inl rfl, _, _, (by (conv => lhs; simp only [go_sem, ibin, ishift]) <;> with_reducible rfl), (by (conv => lhs; simp only [go_sem, ibin, ishift]) <;> with_reducible rfl), ?_⟩
        refine ⟨[0, 1, 2], by decide, rfl, ?_⟩
        exact ⟨by rw [hm]; rfl, by rw [hm]; exact (by first | rfl | (simp only [go_sem, Mi.h]; done) | (simp only [go_sem, Mi.h] <;> rfl))⟩
      have hc1 : ¬(noTote t = true ∨ m.noDev d = true ∨ s < 0 ∨ 65535 < s) := by rw [ht, hn]; simpa using hs
      obtain ⟨d0, d1, d2, d3, x, hx⟩ := Mi.dev hn
      have hdl := hk.dl
      have hel := hk.el
      have r0 : (0 : Int) ≤ d - 1 := by omega
      have r1 : d - 1 < (m.es.length : Int) := by omega
      have r2 : (d - 1).toNat < m.es.length := by omega
      obtain ⟨e, he⟩ : ∃ e, m.es[(d - 1).toNat]? = some e := ⟨_, List.getElem?_eq_getElem r2⟩
      have wd : IntKind.i64.wrap (d - 1) = d - 1 := wi _ (by omega) (by omega)
      have hsv : ∀ R, ((List.map cMd m.ds).set d.toNat R)[d.toNat]? = some R := fun R => List.getElem?_set_self (by rw [List.length_map]; exact d3)
      (with_reducible((first|apply WO2_finw|apply WO2_fina);(conv=>lhs;simp only[go_sem, ibin, ishift])<;>rfl))
      rw [show (decide (s < 0) || decide (s > 65535)) = false by simp only [Bool.or_eq_false_iff, decide_eq_false_iff_not]; omega]
      (repeat' with_reducible first |apply qA|apply qB|apply qC|apply qD|apply qE|apply qF|(apply qG;decide)|apply qH|apply qI|apply qJ|apply qK|((first|apply qL|apply qM|apply qN|apply qO|((first|apply qP|apply qQ);decide +kernel));(conv=>lhs;simp only[go_sem, ibin, ishift, mw_32 hw, d0, d2, d3, hx, cMd])<;>rfl)|((first|apply qR|apply qS);(conv=>lhs;simp only[go_sem])<;>rfl;rfl)|((first|apply qT|apply qU);(conv=>lhs;simp only[go_sem])<;>rfl;rfl)|apply qV|apply qW|apply qX|apply qY|apply qZ)
      by_cases hst : x.down = true ∨ x.tote > 0
      · have hm : m.send d t s = (m, 140) := by rw [Mi.send, if_neg hc1]; simp only [hx, he]; rw [if_pos hst]
        rw [show (x.down || decide (x.tote > 0)) = true by simpa using hst]
        (repeat' with_reducible first |apply qA|apply qB|apply qC|apply qD|apply qE|apply qF|(apply qG;decide)|apply qH|apply qI|apply qJ|apply qK|((first|apply qL|apply qM|apply qN|apply qO|((first|apply qP|apply qQ);decide +kernel));(conv=>lhs;simp only[go_sem, ibin, ishift])<;>rfl)|((first|apply qR|apply qS);(conv=>lhs;simp only[go_sem])<;>rfl;rfl)|((first|apply qT|apply qU);(conv=>lhs;simp only[go_sem])<;>rfl;rfl)|apply qV|apply qW|apply qX|apply qY|apply qZ)
        refine ⟨by first | exact .inr rfl | exact .inl rfl, _, _, (by (conv => lhs; simp only [go_sem, ibin, ishift]) <;> with_reducible rfl), (by (conv => lhs; simp only [go_sem, ibin, ishift]) <;> with_reducible rfl), ?_⟩
        refine ⟨[0, 1, 2], by decide, rfl, ?_⟩
        exact ⟨by rw [hm]; rfl, by rw [hm]; exact (by first | rfl | (simp only [go_sem, Mi.h]; done) | (simp only [go_sem, Mi.h] <;> rfl))⟩
      rw [show (x.down || decide (x.tote > 0)) = false by simpa using hst]
      (repeat' with_reducible first |apply qA|apply qB|apply qC|apply qD|apply qE|apply qF|(apply qG;decide)|apply qH|apply qI|apply qJ|apply qK|((first|apply qL|apply qM|apply qN|apply qO|((first|apply qP|apply qQ);decide +kernel));(conv=>lhs;simp only[go_sem, ibin, ishift])<;>rfl)|((first|apply qR|apply qS);(conv=>lhs;simp only[go_sem])<;>rfl;rfl)|((first|apply qT|apply qU);(conv=>lhs;simp only[go_sem])<;>rfl;rfl)|apply qV|apply qW|apply qX|apply qY|apply qZ)
      (repeat' with_reducible first |apply qA|apply qB|apply qC|apply qD|apply qE|apply qF|(apply qG;decide)|apply qH|apply qI|apply qJ|apply qK|apply qX|((first|apply qR|apply qS);(conv=>lhs;simp only[go_sem])<;>rfl;rfl)|((first|apply qT|apply qU);(conv=>lhs;simp only[go_sem])<;>rfl;rfl)|apply qZ|apply qY|apply qW)
      (with_reducible first | apply W2_sregH [0] [false, false, false, false, false, false, true, false, false, false, false, true, false] | apply W2_regH [0] [false, false, false, false, false, false, true, false, false, false, false, true, false])
      · decide
      · decide
      · rfl
      ((conv => lhs; simp only [go_sem, ibin, ishift]) <;> with_reducible rfl)
      refine EH_callQ (calmM c) rfl [0, 1, 2] (where_spec c m hk t) (by decide) (by simp) rfl rfl rfl (by first | rfl | (simp only [go_sem, Mi.h]; done) | (simp only [go_sem, Mi.h] <;> rfl)) ?_
      rintro v h' ⟨rfl, rfl⟩
      unfold Mi.h
      refine ⟨rfl, ?_⟩
      by_cases hl : m.loc t = e.a
      rotate_left
      · have hm : m.send d t s = (m, 160) := by rw [Mi.send, if_neg hc1]; simp only [hx, he]; rw [if_neg hst, if_pos (.inl hl)]
        have e1 : decide (m.loc t = e.a) = false := decide_eq_false hl
        (with_reducible apply WOH_go (by decide); ((conv => lhs; simp only [go_sem, ibin, ishift, wd, r0, r1, r2, he, cD, e1, mw_32 hw]) <;> with_reducible rfl))
        refine EH_go ?_
        (repeat' with_reducible first |apply qA|apply qB|apply qC|apply qD|apply qE|apply qF|(apply qG;decide)|apply qH|apply qI|apply qJ|apply qK|((first|apply qL|apply qM|apply qN|apply qO|((first|apply qP|apply qQ);decide +kernel));(conv=>lhs;simp only[go_sem, ibin, ishift])<;>rfl)|((first|apply qR|apply qS);(conv=>lhs;simp only[go_sem])<;>rfl;rfl)|((first|apply qT|apply qU);(conv=>lhs;simp only[go_sem])<;>rfl;rfl)|apply qV|apply qW|apply qX|apply qY|apply qZ)
        refine ⟨by first | exact .inr rfl | exact .inl rfl, _, _, (by (conv => lhs; simp only [go_sem, ibin, ishift]) <;> with_reducible rfl), (by (conv => lhs; simp only [go_sem, ibin, ishift]) <;> with_reducible rfl), ?_⟩
        refine ⟨[0, 1, 2], by decide, rfl, ?_⟩
        exact ⟨by rw [hm]; rfl, by rw [hm]; exact (by first | rfl | (simp only [go_sem, Mi.h]; done) | (simp only [go_sem, Mi.h] <;> rfl))⟩
      have e1 : decide (m.loc t = e.a) = true := decide_eq_true hl
      (with_reducible apply WOH_go (by decide); ((conv => lhs; simp only [go_sem, ibin, ishift, wd, r0, r1, r2, he, cD, e1, mw_32 hw]) <;> with_reducible rfl))
      refine EH_ck ?_
      refine CK_call [2, 3] (contains_spec c m.ds (by omega) t) (by decide) (by simp) rfl rfl (by first | rfl | ((conv => lhs; simp only [go_sem, ibin, ishift]) <;> rfl)) ?_
      rintro v h' ⟨rfl, rfl⟩
      cases hh : hasT m.ds t with
      | true =>
        have hm : m.send d t s = (m, 160) := by rw [Mi.send, if_neg hc1]; simp only [hx, he]; rw [if_neg hst, if_pos (.inr hh)]
        (with_reducible((first|apply WO2_finw|apply WO2_fina);(conv=>lhs;simp only[go_sem, ibin, ishift])<;>rfl))
        (repeat' with_reducible first |apply qA|apply qB|apply qC|apply qD|apply qE|apply qF|(apply qG;decide)|apply qH|apply qI|apply qJ|apply qK|((first|apply qL|apply qM|apply qN|apply qO|((first|apply qP|apply qQ);decide +kernel));(conv=>lhs;simp only[go_sem, ibin, ishift])<;>rfl)|((first|apply qR|apply qS);(conv=>lhs;simp only[go_sem])<;>rfl;rfl)|((first|apply qT|apply qU);(conv=>lhs;simp only[go_sem])<;>rfl;rfl)|apply qV|apply qW|apply qX|apply qY|apply qZ)
        refine ⟨by first | exact .inr rfl | exact .inl rfl, _, _, (by (conv => lhs; simp only [go_sem, ibin, ishift]) <;> with_reducible rfl), (by (conv => lhs; simp only [go_sem, ibin, ishift]) <;> with_reducible rfl), ?_⟩
        refine ⟨[0, 1, 2], by decide, rfl, ?_⟩
        exact ⟨by rw [hm]; rfl, by rw [hm]; exact (by first | rfl | (simp only [go_sem, Mi.h]; done) | (simp only [go_sem, Mi.h] <;> rfl))⟩
      | false =>
        have hc3 : ¬(m.loc t ≠ e.a ∨ hasT m.ds t = true) := by rw [hh]; simpa using hl
        (with_reducible((first|apply WO2_finw|apply WO2_fina);(conv=>lhs;simp only[go_sem, ibin, ishift])<;>rfl))
        (repeat' with_reducible first |apply qA|apply qB|apply qC|apply qD|apply qE|apply qF|(apply qG;decide)|apply qH|apply qI|apply qJ|apply qK|((first|apply qL|apply qM|apply qN|apply qO|((first|apply qP|apply qQ);decide +kernel));(conv=>lhs;simp only[go_sem, ibin, ishift])<;>rfl)|((first|apply qR|apply qS);(conv=>lhs;simp only[go_sem])<;>rfl;rfl)|((first|apply qT|apply qU);(conv=>lhs;simp only[go_sem])<;>rfl;rfl)|apply qV|apply qW|apply qX|apply qY|apply qZ)
        (with_reducible((first|apply pA|apply pB|apply pC|apply pD|apply pE|((first|apply pF|apply pG);decide +kernel));(conv=>lhs;simp only[go_sem, ibin, ishift, wd, r0, r1, r2, he, cD])<;>rfl))
        refine CK_call [0, 1, 2] (taken_spec c m hk e.b) (by decide) (by simp) rfl rfl (by first | rfl | (simp only [go_sem, Mi.h]; done) | (simp only [go_sem, Mi.h] <;> rfl)) ?_
        rintro v h' ⟨rfl, rfl⟩
        unfold Mi.h
        cases hb : m.taken e.b with
        | true =>
          have hm : m.send d t s = (m, 100) := by rw [Mi.send, if_neg hc1]; simp only [hx, he]; rw [if_neg hst, if_neg hc3, if_pos hb]
          (with_reducible((first|apply WO2_finw|apply WO2_fina);(conv=>lhs;simp only[go_sem, ibin, ishift])<;>rfl))
          (repeat' with_reducible first |apply qA|apply qB|apply qC|apply qD|apply qE|apply qF|(apply qG;decide)|apply qH|apply qI|apply qJ|apply qK|((first|apply qL|apply qM|apply qN|apply qO|((first|apply qP|apply qQ);decide +kernel));(conv=>lhs;simp only[go_sem, ibin, ishift])<;>rfl)|((first|apply qR|apply qS);(conv=>lhs;simp only[go_sem])<;>rfl;rfl)|((first|apply qT|apply qU);(conv=>lhs;simp only[go_sem])<;>rfl;rfl)|apply qV|apply qW|apply qX|apply qY|apply qZ)
          refine ⟨by first | exact .inr rfl | exact .inl rfl, _, _, (by (conv => lhs; simp only [go_sem, ibin, ishift]) <;> with_reducible rfl), (by (conv => lhs; simp only [go_sem, ibin, ishift]) <;> with_reducible rfl), ?_⟩
          refine ⟨[0, 1, 2], by decide, rfl, ?_⟩
          exact ⟨by rw [hm]; rfl, by rw [hm]; exact (by first | rfl | (simp only [go_sem, Mi.h]; done) | (simp only [go_sem, Mi.h] <;> rfl))⟩
        | false =>
          have hm : m.send d t s = (⟨m.es, m.w, m.at_, m.ds.set d.toNat ⟨t, s, true, x.down⟩⟩, 0) := by rw [Mi.send, if_neg hc1]; simp only [hx, he]; rw [if_neg hst, if_neg hc3, if_neg (by rw [hb]; decide)]
          (with_reducible((first|apply WO2_finw|apply WO2_fina);(conv=>lhs;simp only[go_sem, ibin, ishift])<;>rfl))
          (repeat' with_reducible first |apply qA|apply qB|apply qC|apply qD|apply qE|apply qF|(apply qG;decide)|apply qH|apply qI|apply qJ|apply qK|((first|apply qL|apply qM|apply qN|apply qO|((first|apply qP|apply qQ);decide +kernel));(conv=>lhs;simp only[go_sem, ibin, ishift, d3, hx, cMd, hsv, List.set_set])<;>rfl)|((first|apply qR|apply qS);(conv=>lhs;simp only[go_sem])<;>rfl;rfl)|((first|apply qT|apply qU);(conv=>lhs;simp only[go_sem])<;>rfl;rfl)|apply qV|apply qW|apply qX|apply qY|apply qZ)
          refine ⟨by first | exact .inr rfl | exact .inl rfl, _, _, (by (conv => lhs; simp only [go_sem, ibin, ishift]) <;> with_reducible rfl), (by (conv => lhs; simp only [go_sem, ibin, ishift]) <;> with_reducible rfl), ?_⟩
          refine ⟨[0, 1, 2], by decide, rfl, ?_⟩
          rw [hm]
          refine ⟨rfl, ?_⟩
          simp only [List.length_set, cI_set, cMd_set]
          exact (by first | rfl | ((conv => lhs; simp only [go_sem, ibin, ishift]) <;> rfl))
def Mi.moved (m : Mi) (d t : Int) : Mi × Int :=
  if noTote t = true ∨ m.noDev d = true then (m, 1)
  else match m.ds[d.toNat]?, m.es[(d - 1).toNat]? with
  | some x, some e =>
    if x.tote = 0 then (m, 4)
    else if x.tote = t then (⟨m.es, m.w.set t.toNat (e.b + 1), (m.at_.set e.a.toNat 0).set e.b.toNat t, m.ds.set d.toNat ⟨0, x.seq, x.ever, x.down⟩⟩, 0)
    else (m, 160)
  | _, _ => (m, 1)
theorem moved_spec (c : TabM T) (m : Mi) (hk : m.Ok) (d t : Int) : Ret2 T 3 i_mirror_Mirror_Moved [.ptr 0 0, .i .i64 d, .i .i64 t] m.h (fun v h' => v = .i .i64 (m.moved d t).2 ∧ h' = (m.moved d t).1.h) := by
  refine Ret2_fnv c.moved rfl rfl ?_
  have hw := hk.wl
  unfold Mi.h
  (repeat' with_reducible first |apply qA|apply qB|apply qC|apply qD|apply qE|apply qF|(apply qG;decide)|apply qH|apply qI|apply qJ|apply qK|((first|apply qL|apply qM|apply qN|apply qO|((first|apply qP|apply qQ);decide +kernel));(conv=>lhs;simp only[go_sem, ibin, ishift])<;>rfl)|((first|apply qR|apply qS);(conv=>lhs;simp only[go_sem])<;>rfl;rfl)|((first|apply qT|apply qU);(conv=>lhs;simp only[go_sem])<;>rfl;rfl)|apply qV|apply qW|apply qX|apply qY|apply qZ)
  (with_reducible((first|apply pA|apply pB|apply pC|apply pD|apply pE|((first|apply pF|apply pG);decide +kernel));(conv=>lhs;simp only[go_sem, ibin, ishift])<;>rfl))
  refine CK_pure (noTote_spec c t) rfl ?_
  rintro v h' ⟨rfl, rfl⟩
  cases ht : noTote t with
  | true =>
    have hm : m.moved d t = (m, 1) := by rw [Mi.moved, if_pos (.inl ht)]
    ((with_reducible first | apply WO2_finl | apply WO2_finlq); ((conv => lhs; simp only [go_sem, ibin, ishift]) <;> with_reducible rfl))
    (repeat' with_reducible first |apply qA|apply qB|apply qC|apply qD|apply qE|apply qF|(apply qG;decide)|apply qH|apply qI|apply qJ|apply qK|((first|apply qL|apply qM|apply qN|apply qO|((first|apply qP|apply qQ);decide +kernel));(conv=>lhs;simp only[go_sem, ibin, ishift])<;>rfl)|((first|apply qR|apply qS);(conv=>lhs;simp only[go_sem])<;>rfl;rfl)|((first|apply qT|apply qU);(conv=>lhs;simp only[go_sem])<;>rfl;rfl)|apply qV|apply qW|apply qX|apply qY|apply qZ)
    refine ⟨by first | exact .inr rfl | exact .inl rfl, _, _, (by (conv => lhs; simp only [go_sem, ibin, ishift]) <;> with_reducible rfl), (by (conv => lhs; simp only [go_sem, ibin, ishift]) <;> with_reducible rfl), ?_⟩
    refine ⟨[0, 1, 2], by decide, rfl, ?_⟩
    exact ⟨by rw [hm]; rfl, by rw [hm]; exact (by first | rfl | (simp only [go_sem, Mi.h]; done) | (simp only [go_sem, Mi.h] <;> rfl))⟩
  | false =>
    (with_reducible((first|apply pA|apply pB|apply pC|apply pD|apply pE|((first|apply pF|apply pG);decide +kernel));(conv=>lhs;simp only[go_sem, ibin, ishift])<;>rfl))
    refine CK_call [0, 1, 2] (noDev_spec c m hw d) (by decide) (by simp) rfl rfl (by first | rfl | (simp only [go_sem, Mi.h]; done) | (simp only [go_sem, Mi.h] <;> rfl)) ?_
    rintro v h' ⟨rfl, rfl⟩
    unfold Mi.h
    cases hn : m.noDev d with
    | true =>
      have hm : m.moved d t = (m, 1) := by rw [Mi.moved, if_pos (.inr hn)]
      ((with_reducible first | apply WO2_finl | apply WO2_finlq); ((conv => lhs; simp only [go_sem, ibin, ishift]) <;> with_reducible rfl))
      (repeat' with_reducible first |apply qA|apply qB|apply qC|apply qD|apply qE|apply qF|(apply qG;decide)|apply qH|apply qI|apply qJ|apply qK|((first|apply qL|apply qM|apply qN|apply qO|((first|apply qP|apply qQ);decide +kernel));(conv=>lhs;simp only[go_sem, ibin, ishift])<;>rfl)|((first|apply qR|apply qS);(conv=>lhs;simp only[go_sem])<;>rfl;rfl)|((first|apply qT|apply qU);(conv=>lhs;simp only[go_sem])<;>rfl;rfl)|apply qV|apply qW|apply qX|apply qY|apply qZ)
      refine ⟨by first | exact .inr rfl | exact .inl rfl, _, _, (by (conv => lhs; simp only [go_sem, ibin, ishift]) <;> with_reducible rfl), (by (conv => lhs; simp only [go_sem, ibin, ishift]) <;> with_reducible rfl), ?_⟩
      refine ⟨[0, 1, 2], by decide, rfl, ?_⟩
      exact ⟨by rw [hm]; rfl, by rw [hm]; exact (by first | rfl | (simp only [go_sem, Mi.h]; done) | (simp only [go_sem, Mi.h] <;> rfl))⟩
    | false =>
      have hc1 : ¬(noTote t = true ∨ m.noDev d = true) := by rw [ht, hn]; decide
      obtain ⟨d0, d1, d2, d3, x, hxd⟩ := Mi.dev hn
      have hdl := hk.dl
      have hel := hk.el
      have r0 : (0 : Int) ≤ d - 1 := by omega
      have r1 : d - 1 < (m.es.length : Int) := by omega
      have r2 : (d - 1).toNat < m.es.length := by omega
      obtain ⟨e, he⟩ : ∃ e, m.es[(d - 1).toNat]? = some e := ⟨_, List.getElem?_eq_getElem r2⟩
      have wd : IntKind.i64.wrap (d - 1) = d - 1 := wi _ (by omega) (by omega)
      (with_reducible((first|apply WO2_finw|apply WO2_fina);(conv=>lhs;simp only[go_sem, ibin, ishift])<;>rfl))
      (repeat' with_reducible first |apply qA|apply qB|apply qC|apply qD|apply qE|apply qF|(apply qG;decide)|apply qH|apply qI|apply qJ|apply qK|((first|apply qL|apply qM|apply qN|apply qO|((first|apply qP|apply qQ);decide +kernel));(conv=>lhs;simp only[go_sem, ibin, ishift, mw_32 hw, d0, d2, d3, hxd, cMd])<;>rfl)|((first|apply qR|apply qS);(conv=>lhs;simp only[go_sem])<;>rfl;rfl)|((first|apply qT|apply qU);(conv=>lhs;simp only[go_sem])<;>rfl;rfl)|apply qV|apply qW|apply qX|apply qY|apply qZ)
      (((first | with_reducible apply W2_sc | with_reducible apply W2_cond); ((conv => lhs; simp only [go_sem]) <;> with_reducible rfl)) <;> intro hx <;> (try rw [hx]) <;> simp only [Bool.or_eq_true, Bool.and_eq_true, decide_eq_true_eq, Bool.or_eq_false_iff, Bool.and_eq_false_iff, decide_eq_false_iff_not, Bool.not_eq_true', Bool.not_eq_false', bne_iff_ne, beq_iff_eq, not_or, not_and, Decidable.not_not, ne_eq, gt_iff_lt, ge_iff_le, Int.not_lt, Int.not_le] at hx)
      · have hm : m.moved d t = (m, 4) := by rw [Mi.moved, if_neg hc1]; simp only [hxd, he]; rw [if_pos (by assumption)]
        (repeat' with_reducible first |apply qA|apply qB|apply qC|apply qD|apply qE|apply qF|(apply qG;decide)|apply qH|apply qI|apply qJ|apply qK|((first|apply qL|apply qM|apply qN|apply qO|((first|apply qP|apply qQ);decide +kernel));(conv=>lhs;simp only[go_sem, ibin, ishift])<;>rfl)|((first|apply qR|apply qS);(conv=>lhs;simp only[go_sem])<;>rfl;rfl)|((first|apply qT|apply qU);(conv=>lhs;simp only[go_sem])<;>rfl;rfl)|apply qV|apply qW|apply qX|apply qY|apply qZ)
        refine ⟨by first | exact .inr rfl | exact .inl rfl, _, _, (by (conv => lhs; simp only [go_sem, ibin, ishift]) <;> with_reducible rfl), (by (conv => lhs; simp only [go_sem, ibin, ishift]) <;> with_reducible rfl), ?_⟩
        refine ⟨[0, 1, 2], by decide, rfl, ?_⟩
        exact ⟨by rw [hm]; rfl, by rw [hm]; exact (by first | rfl | (simp only [go_sem, Mi.h]; done) | (simp only [go_sem, Mi.h] <;> rfl))⟩
      · (repeat' with_reducible first |apply qA|apply qB|apply qC|apply qD|apply qE|apply qF|(apply qG;decide)|apply qH|apply qI|apply qJ|apply qK|((first|apply qL|apply qM|apply qN|apply qO|((first|apply qP|apply qQ);decide +kernel));(conv=>lhs;simp only[go_sem, ibin, ishift])<;>rfl)|((first|apply qR|apply qS);(conv=>lhs;simp only[go_sem])<;>rfl;rfl)|((first|apply qT|apply qU);(conv=>lhs;simp only[go_sem])<;>rfl;rfl)|apply qV|apply qW|apply qX|apply qY|apply qZ)
        by_cases htt : x.tote = t
        rotate_left
        · have hm : m.moved d t = (m, 160) := by rw [Mi.moved, if_neg hc1]; simp only [hxd, he]; rw [if_neg (by assumption), if_neg htt]
          rw [decide_eq_false htt]
          (repeat' with_reducible first |apply qA|apply qB|apply qC|apply qD|apply qE|apply qF|(apply qG;decide)|apply qH|apply qI|apply qJ|apply qK|((first|apply qL|apply qM|apply qN|apply qO|((first|apply qP|apply qQ);decide +kernel));(conv=>lhs;simp only[go_sem, ibin, ishift])<;>rfl)|((first|apply qR|apply qS);(conv=>lhs;simp only[go_sem])<;>rfl;rfl)|((first|apply qT|apply qU);(conv=>lhs;simp only[go_sem])<;>rfl;rfl)|apply qV|apply qW|apply qX|apply qY|apply qZ)
          refine ⟨by first | exact .inr rfl | exact .inl rfl, _, _, (by (conv => lhs; simp only [go_sem, ibin, ishift]) <;> with_reducible rfl), (by (conv => lhs; simp only [go_sem, ibin, ishift]) <;> with_reducible rfl), ?_⟩
          refine ⟨[0, 1, 2], by decide, rfl, ?_⟩
          exact ⟨by rw [hm]; rfl, by rw [hm]; exact (by first | rfl | (simp only [go_sem, Mi.h]; done) | (simp only [go_sem, Mi.h] <;> rfl))⟩
        have hr : ¬(t < 1 ∨ 30 < t) := by simpa [noTote] using ht
        obtain ⟨a0, a1, b0, b1, hab⟩ := hk.ed e (List.mem_of_getElem? he)
        have hal := hk.al
        have a2 : e.a.toNat < m.at_.length := by omega
        have b2 : e.b.toNat < m.at_.length := by omega
        obtain ⟨ya, hya⟩ : ∃ x, m.at_[e.a.toNat]? = some x := ⟨_, List.getElem?_eq_getElem a2⟩
        obtain ⟨yb, hyb⟩ : ∃ y, m.at_[e.b.toNat]? = some y := ⟨_, List.getElem?_eq_getElem b2⟩
        have hby : ((List.map cI m.at_).set e.a.toNat [PV.i .i64 0])[e.b.toNat]? = some [PV.i .i64 yb] := by rw [List.getElem?_set_ne (by omega), List.getElem?_map, hyb]; rfl
        have h0 : 0 ≤ t := by omega
        have h1 : t < 31 := by omega
        have h2 : t.toNat < m.w.length := by omega
        have h3 : 1 + t.toNat = t.toNat + 1 := by omega
        have h4 : t.toNat + 1 + 1 ≤ 34 := by omega
        have wb : IntKind.i64.wrap (e.b + 1) = e.b + 1 := wi _ (by omega) (by omega)
        have hm : m.moved d t = (⟨m.es, m.w.set t.toNat (e.b + 1), (m.at_.set e.a.toNat 0).set e.b.toNat t, m.ds.set d.toNat ⟨0, x.seq, x.ever, x.down⟩⟩, 0) := by rw [Mi.moved, if_neg hc1]; simp only [hxd, he]; rw [if_neg (by assumption), if_pos htt]
        have hw2 : (m.w.set t.toNat (e.b + 1)).length = 31 := by rw [List.length_set]; exact hw
        rw [decide_eq_true htt]
        (repeat' with_reducible first |apply qA|apply qB|apply qC|apply qD|apply qE|apply qF|(apply qG;decide)|apply qH|apply qI|apply qJ|apply qK|((first|apply qL|apply qM|apply qN|apply qO|((first|apply qP|apply qQ);decide +kernel));(conv=>lhs;simp only[go_sem, ibin, ishift, wd, r0, r1, r2, he, cD])<;>rfl)|((first|apply qR|apply qS);(conv=>lhs;simp only[go_sem])<;>rfl;rfl)|((first|apply qT|apply qU);(conv=>lhs;simp only[go_sem])<;>rfl;rfl)|apply qV|apply qW|apply qX|apply qY|apply qZ)
        (repeat' with_reducible first |apply qA|apply qB|apply qC|apply qD|apply qE|apply qF|(apply qG;decide)|apply qH|apply qI|apply qJ|apply qK|apply qX|((first|apply qR|apply qS);(conv=>lhs;simp only[go_sem])<;>rfl;rfl)|((first|apply qT|apply qU);(conv=>lhs;simp only[go_sem])<;>rfl;rfl)|apply qZ|apply qY|apply qW)
        (with_reducible first | apply W2_sregH [0, 3] [false, false, false, false, false, false, false, false, false, false, false, true, false, false, false, false, false] | apply W2_regH [0, 3] [false, false, false, false, false, false, false, false, false, false, false, true, false, false, false, false, false])
        · decide
        · decide
        · rfl
        ((conv => lhs; simp only [go_sem, ibin, ishift, mw_31 hw, a0, a1, a2, b0, b1, b2, hya, hyb, hby, cI]) <;> with_reducible rfl)
        refine EH_go ?_
        (repeat' with_reducible first |apply qA|apply qB|apply qC|apply qD|apply qE|apply qF|(apply qG;decide)|apply qH|apply qI|apply qJ|apply qK|((first|apply qL|apply qM|apply qN|apply qO|((first|apply qP|apply qQ);decide +kernel));(conv=>lhs;simp only[go_sem, ibin, ishift, h0, h1, h3, h4, hw, wb, mw_set h2, mw_32 hw2, d0, d2, d3, hxd, cMd])<;>rfl)|((first|apply qR|apply qS);(conv=>lhs;simp only[go_sem])<;>rfl;rfl)|((first|apply qT|apply qU);(conv=>lhs;simp only[go_sem])<;>rfl;rfl)|apply qV|apply qW|apply qX|apply qY|apply qZ)
        refine ⟨by first | exact .inr rfl | exact .inl rfl, _, _, (by (conv => lhs; simp only [go_sem, ibin, ishift]) <;> with_reducible rfl), (by (conv => lhs; simp only [go_sem, ibin, ishift]) <;> with_reducible rfl), ?_⟩
        refine ⟨[0, 1, 2], by decide, rfl, ?_⟩
        rw [hm]
        refine ⟨rfl, ?_⟩
        simp only [List.length_set, cI_set, cMd_set]
        exact (by first | rfl | ((conv => lhs; simp only [go_sem, ibin, ishift]) <;> rfl))
def Mi.drop (m : Mi) (d : Int) : Mi × Int :=
  if m.noDev d = true then (m, 1)
  else match m.ds[d.toNat]? with
  | some x => if x.tote = 0 then (m, 4) else (⟨m.es, m.w, m.at_, m.ds.set d.toNat ⟨0, x.seq, x.ever, x.down⟩⟩, 0)
  | none => (m, 1)
theorem drop_spec (c : TabM T) (m : Mi) (hw : m.w.length = 31) (d : Int) : Ret2 T 3 i_mirror_Mirror_Drop [.ptr 0 0, .i .i64 d] m.h (fun v h' => v = .i .i64 (m.drop d).2 ∧ h' = (m.drop d).1.h) := by
  refine Ret2_fnv c.drop rfl rfl ?_
  unfold Mi.h
  (repeat' with_reducible first |apply qA|apply qB|apply qC|apply qD|apply qE|apply qF|(apply qG;decide)|apply qH|apply qI|apply qJ|apply qK|((first|apply qL|apply qM|apply qN|apply qO|((first|apply qP|apply qQ);decide +kernel));(conv=>lhs;simp only[go_sem, ibin, ishift])<;>rfl)|((first|apply qR|apply qS);(conv=>lhs;simp only[go_sem])<;>rfl;rfl)|((first|apply qT|apply qU);(conv=>lhs;simp only[go_sem])<;>rfl;rfl)|apply qV|apply qW|apply qX|apply qY|apply qZ)
  (with_reducible((first|apply pA|apply pB|apply pC|apply pD|apply pE|((first|apply pF|apply pG);decide +kernel));(conv=>lhs;simp only[go_sem, ibin, ishift])<;>rfl))
  refine CK_call [0, 1, 2] (noDev_spec c m hw d) (by decide) (by simp) rfl rfl (by first | rfl | (simp only [go_sem, Mi.h]; done) | (simp only [go_sem, Mi.h] <;> rfl)) ?_
  rintro v h' ⟨rfl, rfl⟩
  unfold Mi.h
  cases hn : m.noDev d with
  | true =>
    have hm : m.drop d = (m, 1) := by rw [Mi.drop, if_pos hn]
    (with_reducible((first|apply WO2_finw|apply WO2_fina);(conv=>lhs;simp only[go_sem, ibin, ishift])<;>rfl))
    (repeat' with_reducible first |apply qA|apply qB|apply qC|apply qD|apply qE|apply qF|(apply qG;decide)|apply qH|apply qI|apply qJ|apply qK|((first|apply qL|apply qM|apply qN|apply qO|((first|apply qP|apply qQ);decide +kernel));(conv=>lhs;simp only[go_sem, ibin, ishift])<;>rfl)|((first|apply qR|apply qS);(conv=>lhs;simp only[go_sem])<;>rfl;rfl)|((first|apply qT|apply qU);(conv=>lhs;simp only[go_sem])<;>rfl;rfl)|apply qV|apply qW|apply qX|apply qY|apply qZ)
    refine ⟨by first | exact .inr rfl | exact .inl rfl, _, _, (by (conv => lhs; simp only [go_sem, ibin, ishift]) <;> with_reducible rfl), (by (conv => lhs; simp only [go_sem, ibin, ishift]) <;> with_reducible rfl), ?_⟩
    refine ⟨[0, 1, 2], by decide, rfl, ?_⟩
    exact ⟨by rw [hm]; rfl, by rw [hm]; exact (by first | rfl | (simp only [go_sem, Mi.h]; done) | (simp only [go_sem, Mi.h] <;> rfl))⟩
  | false =>
    have hc1 : ¬(m.noDev d = true) := by rw [hn]; decide
    obtain ⟨d0, d1, d2, d3, x, hxd⟩ := Mi.dev hn
    (with_reducible((first|apply WO2_finw|apply WO2_fina);(conv=>lhs;simp only[go_sem, ibin, ishift])<;>rfl))
    (repeat' with_reducible first |apply qA|apply qB|apply qC|apply qD|apply qE|apply qF|(apply qG;decide)|apply qH|apply qI|apply qJ|apply qK|((first|apply qL|apply qM|apply qN|apply qO|((first|apply qP|apply qQ);decide +kernel));(conv=>lhs;simp only[go_sem, ibin, ishift, mw_32 hw, d0, d2, d3, hxd, cMd])<;>rfl)|((first|apply qR|apply qS);(conv=>lhs;simp only[go_sem])<;>rfl;rfl)|((first|apply qT|apply qU);(conv=>lhs;simp only[go_sem])<;>rfl;rfl)|apply qV|apply qW|apply qX|apply qY|apply qZ)
    (((first | with_reducible apply W2_sc | with_reducible apply W2_cond); ((conv => lhs; simp only [go_sem]) <;> with_reducible rfl)) <;> intro hx <;> (try rw [hx]) <;> simp only [Bool.or_eq_true, Bool.and_eq_true, decide_eq_true_eq, Bool.or_eq_false_iff, Bool.and_eq_false_iff, decide_eq_false_iff_not, Bool.not_eq_true', Bool.not_eq_false', bne_iff_ne, beq_iff_eq, not_or, not_and, Decidable.not_not, ne_eq, gt_iff_lt, ge_iff_le, Int.not_lt, Int.not_le] at hx)
    · have hm : m.drop d = (m, 4) := by rw [Mi.drop, if_neg hc1]; simp only [hxd]; rw [if_pos (by assumption)]
      (repeat' with_reducible first |apply qA|apply qB|apply qC|apply qD|apply qE|apply qF|(apply qG;decide)|apply qH|apply qI|apply qJ|apply qK|((first|apply qL|apply qM|apply qN|apply qO|((first|apply qP|apply qQ);decide +kernel));(conv=>lhs;simp only[go_sem, ibin, ishift])<;>rfl)|((first|apply qR|apply qS);(conv=>lhs;simp only[go_sem])<;>rfl;rfl)|((first|apply qT|apply qU);(conv=>lhs;simp only[go_sem])<;>rfl;rfl)|apply qV|apply qW|apply qX|apply qY|apply qZ)
      refine ⟨by first | exact .inr rfl | exact .inl rfl, _, _, (by (conv => lhs; simp only [go_sem, ibin, ishift]) <;> with_reducible rfl), (by (conv => lhs; simp only [go_sem, ibin, ishift]) <;> with_reducible rfl), ?_⟩
      refine ⟨[0, 1, 2], by decide, rfl, ?_⟩
      exact ⟨by rw [hm]; rfl, by rw [hm]; exact (by first | rfl | (simp only [go_sem, Mi.h]; done) | (simp only [go_sem, Mi.h] <;> rfl))⟩
    · have hm : m.drop d = (⟨m.es, m.w, m.at_, m.ds.set d.toNat ⟨0, x.seq, x.ever, x.down⟩⟩, 0) := by rw [Mi.drop, if_neg hc1]; simp only [hxd]; rw [if_neg (by assumption)]
      (repeat' with_reducible first |apply qA|apply qB|apply qC|apply qD|apply qE|apply qF|(apply qG;decide)|apply qH|apply qI|apply qJ|apply qK|((first|apply qL|apply qM|apply qN|apply qO|((first|apply qP|apply qQ);decide +kernel));(conv=>lhs;simp only[go_sem, ibin, ishift, mw_32 hw, d0, d2, d3, hxd, cMd])<;>rfl)|((first|apply qR|apply qS);(conv=>lhs;simp only[go_sem])<;>rfl;rfl)|((first|apply qT|apply qU);(conv=>lhs;simp only[go_sem])<;>rfl;rfl)|apply qV|apply qW|apply qX|apply qY|apply qZ)
      refine ⟨by first | exact .inr rfl | exact .inl rfl, _, _, (by (conv => lhs; simp only [go_sem, ibin, ishift]) <;> with_reducible rfl), (by (conv => lhs; simp only [go_sem, ibin, ishift]) <;> with_reducible rfl), ?_⟩
      refine ⟨[0, 1, 2], by decide, rfl, ?_⟩
      rw [hm]
      refine ⟨rfl, ?_⟩
      simp only [List.length_set, cI_set, cMd_set]
      exact (by first | rfl | ((conv => lhs; simp only [go_sem, ibin, ishift]) <;> rfl))
def Mi.mask (m : Mi) (d : Int) (b : Bool) : Mi × Int :=
  if m.noDev d = true then (m, 1)
  else match m.ds[d.toNat]? with
  | some x => (⟨m.es, m.w, m.at_, m.ds.set d.toNat ⟨x.tote, x.seq, x.ever, b⟩⟩, 0)
  | none => (m, 1)
theorem mask_spec (c : TabM T) (m : Mi) (hw : m.w.length = 31) (d : Int) (b : Bool) : Ret2 T 3 i_mirror_Mirror_Mask [.ptr 0 0, .i .i64 d, .b b] m.h (fun v h' => v = .i .i64 (m.mask d b).2 ∧ h' = (m.mask d b).1.h) := by
  refine Ret2_fnv c.mask rfl rfl ?_
  unfold Mi.h
  (repeat' with_reducible first |apply qA|apply qB|apply qC|apply qD|apply qE|apply qF|(apply qG;decide)|apply qH|apply qI|apply qJ|apply qK|((first|apply qL|apply qM|apply qN|apply qO|((first|apply qP|apply qQ);decide +kernel));(conv=>lhs;simp only[go_sem, ibin, ishift])<;>rfl)|((first|apply qR|apply qS);(conv=>lhs;simp only[go_sem])<;>rfl;rfl)|((first|apply qT|apply qU);(conv=>lhs;simp only[go_sem])<;>rfl;rfl)|apply qV|apply qW|apply qX|apply qY|apply qZ)
  (with_reducible((first|apply pA|apply pB|apply pC|apply pD|apply pE|((first|apply pF|apply pG);decide +kernel));(conv=>lhs;simp only[go_sem, ibin, ishift])<;>rfl))
  refine CK_call [0, 1, 2] (noDev_spec c m hw d) (by decide) (by simp) rfl rfl (by first | rfl | (simp only [go_sem, Mi.h]; done) | (simp only [go_sem, Mi.h] <;> rfl)) ?_
  rintro v h' ⟨rfl, rfl⟩
  unfold Mi.h
  cases hn : m.noDev d with
  | true =>
    have hm : m.mask d b = (m, 1) := by rw [Mi.mask, if_pos hn]
    (with_reducible((first|apply WO2_finw|apply WO2_fina);(conv=>lhs;simp only[go_sem, ibin, ishift])<;>rfl))
    (repeat' with_reducible first |apply qA|apply qB|apply qC|apply qD|apply qE|apply qF|(apply qG;decide)|apply qH|apply qI|apply qJ|apply qK|((first|apply qL|apply qM|apply qN|apply qO|((first|apply qP|apply qQ);decide +kernel));(conv=>lhs;simp only[go_sem, ibin, ishift])<;>rfl)|((first|apply qR|apply qS);(conv=>lhs;simp only[go_sem])<;>rfl;rfl)|((first|apply qT|apply qU);(conv=>lhs;simp only[go_sem])<;>rfl;rfl)|apply qV|apply qW|apply qX|apply qY|apply qZ)
    refine ⟨by first | exact .inr rfl | exact .inl rfl, _, _, (by (conv => lhs; simp only [go_sem, ibin, ishift]) <;> with_reducible rfl), (by (conv => lhs; simp only [go_sem, ibin, ishift]) <;> with_reducible rfl), ?_⟩
    refine ⟨[0, 1, 2], by decide, rfl, ?_⟩
    exact ⟨by rw [hm]; rfl, by rw [hm]; exact (by first | rfl | (simp only [go_sem, Mi.h]; done) | (simp only [go_sem, Mi.h] <;> rfl))⟩
  | false =>
    have hc1 : ¬(m.noDev d = true) := by rw [hn]; decide
    obtain ⟨d0, d1, d2, d3, x, hxd⟩ := Mi.dev hn
    have hm : m.mask d b = (⟨m.es, m.w, m.at_, m.ds.set d.toNat ⟨x.tote, x.seq, x.ever, b⟩⟩, 0) := by rw [Mi.mask, if_neg hc1]; simp only [hxd]
    (with_reducible((first|apply WO2_finw|apply WO2_fina);(conv=>lhs;simp only[go_sem, ibin, ishift])<;>rfl))
    (repeat' with_reducible first |apply qA|apply qB|apply qC|apply qD|apply qE|apply qF|(apply qG;decide)|apply qH|apply qI|apply qJ|apply qK|((first|apply qL|apply qM|apply qN|apply qO|((first|apply qP|apply qQ);decide +kernel));(conv=>lhs;simp only[go_sem, ibin, ishift, mw_32 hw, d0, d2, d3, hxd, cMd])<;>rfl)|((first|apply qR|apply qS);(conv=>lhs;simp only[go_sem])<;>rfl;rfl)|((first|apply qT|apply qU);(conv=>lhs;simp only[go_sem])<;>rfl;rfl)|apply qV|apply qW|apply qX|apply qY|apply qZ)
    refine ⟨by first | exact .inr rfl | exact .inl rfl, _, _, (by (conv => lhs; simp only [go_sem, ibin, ishift]) <;> with_reducible rfl), (by (conv => lhs; simp only [go_sem, ibin, ishift]) <;> with_reducible rfl), ?_⟩
    refine ⟨[0, 1, 2], by decide, rfl, ?_⟩
    rw [hm]
    refine ⟨rfl, ?_⟩
    simp only [List.length_set, cI_set, cMd_set]
    exact (by first | rfl | ((conv => lhs; simp only [go_sem, ibin, ishift]) <;> rfl))
end Go.Proofs.Ytjijhkmimjolhaa.Ab
