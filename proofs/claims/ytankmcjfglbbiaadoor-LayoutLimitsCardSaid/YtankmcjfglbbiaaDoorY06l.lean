/- Layouts: the document's answer. -/
import Derived.Test.YtankmcjfglbbiaaDoorY06a
namespace Go.Proofs.YtankmcjfglbbiaaDoor.Ab
open Go
set_option linter.unusedVariables false
set_option linter.unusedSimpArgs false
variable {T : AT}
structure TabG (T : AT) : Prop where
  name : T i_stillageref06_Name = some (.fn c_stillageref06_Name)
  find : T i_stillageref06_Find = some (.fn c_stillageref06_Find)
  good : T i_stillageref06_Good = some (.fn c_stillageref06_Good)
theorem rname_spec (c : TabG T) (s : List UInt8) (hs : s.length ≤ 9223372036854775807) : Ret2 T 0 i_stillageref06_Name [.s s] [] (fun v h' => v = .b (nameOk s) ∧ h' = []) := by
  refine Ret2_fnv c.name rfl rfl ?_
  (repeat' with_reducible first |apply qA|apply qB|apply qC|apply qD|apply qE|apply qF|(apply qG;decide)|apply qH|apply qI|apply qJ|apply qK|((first|apply qL|apply qM|apply qN|apply qO|((first|apply qP|apply qQ);decide +kernel));(conv=>lhs;simp only[go_sem, ibin, ishift])<;>rfl)|((first|apply qR|apply qS);(conv=>lhs;simp only[go_sem])<;>rfl;rfl)|((first|apply qT|apply qU);(conv=>lhs;simp only[go_sem])<;>rfl;rfl)|apply qV|apply qW|apply qX|apply qY|apply qZ)
  by_cases h8 : 1 ≤ s.length ∧ s.length ≤ 8
  rotate_left
  · rw [show (decide ((s.length : Int) < 1) || decide ((s.length : Int) > 8)) = true by simp only [Bool.or_eq_true, decide_eq_true_eq]; omega]
    (repeat' with_reducible first |apply qA|apply qB|apply qC|apply qD|apply qE|apply qF|(apply qG;decide)|apply qH|apply qI|apply qJ|apply qK|((first|apply qL|apply qM|apply qN|apply qO|((first|apply qP|apply qQ);decide +kernel));(conv=>lhs;simp only[go_sem, ibin, ishift])<;>rfl)|((first|apply qR|apply qS);(conv=>lhs;simp only[go_sem])<;>rfl;rfl)|((first|apply qT|apply qU);(conv=>lhs;simp only[go_sem])<;>rfl;rfl)|apply qV|apply qW|apply qX|apply qY|apply qZ)
    refine ⟨by first | exact .inr rfl | exact .inl rfl, _, _, (by (conv => lhs; simp only [go_sem, ibin, ishift]) <;> with_reducible rfl), (by (conv => lhs; simp only [go_sem, ibin, ishift]) <;> with_reducible rfl), ?_⟩
    refine ⟨[], by decide, rfl, ?_⟩
    refine ⟨?_, rfl⟩
    have : nameOk s = false := by
      cases h : nameOk s with
      | false => rfl
      | true => simp only [nameOk, Bool.and_eq_true, decide_eq_true_eq] at h; omega
    rw [this]; rfl
  rw [show (decide ((s.length : Int) < 1) || decide ((s.length : Int) > 8)) = false by simp only [Bool.or_eq_false_iff, decide_eq_false_iff_not]; omega]
  (repeat' with_reducible first |apply qA|apply qB|apply qC|apply qD|apply qE|apply qF|(apply qG;decide)|apply qH|apply qI|apply qJ|apply qK|((first|apply qL|apply qM|apply qN|apply qO|((first|apply qP|apply qQ);decide +kernel));(conv=>lhs;simp only[go_sem, ibin, ishift])<;>rfl)|((first|apply qR|apply qS);(conv=>lhs;simp only[go_sem])<;>rfl;rfl)|((first|apply qT|apply qU);(conv=>lhs;simp only[go_sem])<;>rfl;rfl)|apply qV|apply qW|apply qX|apply qY|apply qZ)
  refine W2_loopu (fun m u g => ∃ j, j + m = s.length ∧ (∀ i < j, ∀ c, s[i]? = some c → chOk i c = true) ∧ u = [(3, .i .i64 j)] ∧ g = []) s.length ⟨0, by omega, fun i hi => by omega, rfl, rfl⟩ rfl rfl ?_
  rintro m u g ⟨j, hj, hok, rfl, rfl⟩
  intro e1 h1 he1 hh1; simp only [egd, supE, hgd, supH, Nat.reduceEqDiff, Nat.reduceAdd, if_true, if_false, reduceIte] at he1 hh1; subst he1; subst hh1
  (repeat' with_reducible first |apply qA|apply qB|apply qC|apply qD|apply qE|apply qF|(apply qG;decide)|apply qH|apply qI|apply qJ|apply qK|((first|apply qL|apply qM|apply qN|apply qO|((first|apply qP|apply qQ);decide +kernel));(conv=>lhs;simp only[go_sem, ibin, ishift])<;>rfl)|((first|apply qR|apply qS);(conv=>lhs;simp only[go_sem])<;>rfl;rfl)|((first|apply qT|apply qU);(conv=>lhs;simp only[go_sem])<;>rfl;rfl)|apply qV|apply qW|apply qX|apply qY|apply qZ)
  (((first | with_reducible apply W2_sc | with_reducible apply W2_cond); ((conv => lhs; simp only [go_sem]) <;> with_reducible rfl)) <;> intro hx <;> (try rw [hx]) <;> simp only [Bool.or_eq_true, Bool.and_eq_true, decide_eq_true_eq, Bool.or_eq_false_iff, Bool.and_eq_false_iff, decide_eq_false_iff_not, Bool.not_eq_true', Bool.not_eq_false', bne_iff_ne, beq_iff_eq, not_or, not_and, Decidable.not_not, ne_eq, gt_iff_lt, ge_iff_le, Int.not_lt, Int.not_le] at hx)
  · have hjl : j < s.length := by omega
    have hg := List.getElem?_eq_getElem hjl
    have htk : s.take (j + 1) = s.take j ++ [s[j]] := by rw [List.take_add_one, List.getElem?_eq_getElem hjl]; rfl
    have hmem := List.getElem_mem hjl
    generalize s[j] = x at hg htk hmem
    have h0 : (0 : Int) ≤ (j : Int) := by omega
    have h1 : (j : Int) < (s.length : Int) := by omega
    (repeat' with_reducible first |apply qA|apply qB|apply qC|apply qD|apply qE|apply qF|(apply qG;decide)|apply qH|apply qI|apply qJ|apply qK|((first|apply qL|apply qM|apply qN|apply qO|((first|apply qP|apply qQ);decide +kernel));(conv=>lhs;simp only[go_sem, ibin, ishift, hg, hjl, h0, h1])<;>rfl)|((first|apply qR|apply qS);(conv=>lhs;simp only[go_sem])<;>rfl;rfl)|((first|apply qT|apply qU);(conv=>lhs;simp only[go_sem])<;>rfl;rfl)|apply qV|apply qW|apply qX|apply qY|apply qZ)
    rw [show (!(decide ((x.toNat : Int) ≥ 97) && decide ((x.toNat : Int) ≤ 122)) && (decide ((j : Int) = 0) || !(decide ((x.toNat : Int) ≥ 48) && decide ((x.toNat : Int) ≤ 57)))) = !chOk j x by
      rw [Bool.eq_iff_iff]; simp only [chOk, Bool.and_eq_true, Bool.or_eq_true, decide_eq_true_eq, Bool.not_eq_true', decide_eq_false_iff_not, Bool.and_eq_false_iff]; omega]
    cases hc : chOk j x with
    | true =>
      (repeat' with_reducible first |apply qA|apply qB|apply qC|apply qD|apply qE|apply qF|(apply qG;decide)|apply qH|apply qI|apply qJ|apply qK|((first|apply qL|apply qM|apply qN|apply qO|((first|apply qP|apply qQ);decide +kernel));(conv=>lhs;simp only[go_sem, ibin, ishift, wS (show j < 9223372036854775807 by omega)])<;>rfl)|((first|apply qR|apply qS);(conv=>lhs;simp only[go_sem])<;>rfl;rfl)|((first|apply qT|apply qU);(conv=>lhs;simp only[go_sem])<;>rfl;rfl)|apply qV|apply qW|apply qX|apply qY|apply qZ)
      refine ⟨[], by decide, rfl, ?_⟩
      exact ⟨s.length - (j + 1), _, _, by omega, ⟨j + 1, by omega, fun i hi c h => by
        by_cases e : i = j
        · subst e; rw [hg] at h; cases h; exact hc
        · exact hok i (by omega) c h, rfl, rfl⟩, rfl, (by first | rfl | ((conv => lhs; simp only [go_sem, ibin, ishift]) <;> rfl))⟩
    | false =>
      (repeat' with_reducible first |apply qA|apply qB|apply qC|apply qD|apply qE|apply qF|(apply qG;decide)|apply qH|apply qI|apply qJ|apply qK|((first|apply qL|apply qM|apply qN|apply qO|((first|apply qP|apply qQ);decide +kernel));(conv=>lhs;simp only[go_sem, ibin, ishift])<;>rfl)|((first|apply qR|apply qS);(conv=>lhs;simp only[go_sem])<;>rfl;rfl)|((first|apply qT|apply qU);(conv=>lhs;simp only[go_sem])<;>rfl;rfl)|apply qV|apply qW|apply qX|apply qY|apply qZ)
      refine ⟨by first | exact .inr rfl | exact .inl rfl, _, _, (by (conv => lhs; simp only [go_sem, ibin, ishift]) <;> with_reducible rfl), (by (conv => lhs; simp only [go_sem, ibin, ishift]) <;> with_reducible rfl), ?_⟩
      refine ⟨[], by decide, rfl, ?_⟩
      exact ⟨by rw [show nameOk s = false by simp [nameOk, chsOk_false hg hc]]; rfl, rfl⟩
  · (repeat' with_reducible first |apply qA|apply qB|apply qC|apply qD|apply qE|apply qF|(apply qG;decide)|apply qH|apply qI|apply qJ|apply qK|((first|apply qL|apply qM|apply qN|apply qO|((first|apply qP|apply qQ);decide +kernel));(conv=>lhs;simp only[go_sem, ibin, ishift])<;>rfl)|((first|apply qR|apply qS);(conv=>lhs;simp only[go_sem])<;>rfl;rfl)|((first|apply qT|apply qU);(conv=>lhs;simp only[go_sem])<;>rfl;rfl)|apply qV|apply qW|apply qX|apply qY|apply qZ)
    refine ⟨by first | exact .inr rfl | exact .inl rfl, _, _, (by (conv => lhs; simp only [go_sem, ibin, ishift]) <;> with_reducible rfl), (by (conv => lhs; simp only [go_sem, ibin, ishift]) <;> with_reducible rfl), ?_⟩
    refine ⟨[], by decide, rfl, ?_⟩
    have hjn : j = s.length := by omega
    subst hjn
    refine ⟨?_, rfl⟩
    have := chsOk_true hok
    have : nameOk s = true := by simp only [nameOk, this, Bool.true_and, Bool.and_eq_true, decide_eq_true_eq]; exact h8
    rw [this]; rfl
/-- the first place of a name -/
def fnd (nm : List UInt8) : List Nd → Nat → Int
  | [], _ => -1
  | x :: r, j => if x.name = nm then j else fnd nm r (j + 1)
theorem fnd_take {nm : List UInt8} : ∀ {l : List Nd} {j i : Nat}, (∀ y ∈ l.take i, y.name ≠ nm) → fnd nm l j = fnd nm (l.drop i) (j + i)
  | [], j, i, _ => by simp [fnd]
  | y :: l, j, 0, _ => by simp
  | y :: l, j, i + 1, h => by
    rw [fnd, if_neg (h y (by simp)), List.drop_succ_cons, fnd_take (i := i) fun z hz => h z (by simp [hz])]
    congr 1; omega
theorem fnd_here {nm : List UInt8} {l : List Nd} {j : Nat} {x : Nd} (h : ∀ y ∈ l.take j, y.name ≠ nm) (hg : l[j]? = some x) (hx : x.name = nm) : fnd nm l 0 = j := by
  obtain ⟨hj, e⟩ := List.getElem?_eq_some_iff.1 hg
  rw [fnd_take h, List.drop_eq_getElem_cons hj, e, fnd, if_pos hx, Nat.zero_add]
theorem fnd_none {nm : List UInt8} {l : List Nd} (h : ∀ y ∈ l, y.name ≠ nm) : fnd nm l 0 = -1 := by
  rw [fnd_take (i := l.length) (by rw [List.take_length]; exact h), List.drop_length, fnd]
theorem find_spec (c : TabG T) (l : Lay) (hl : l.ns.length ≤ 1000000) (nm : List UInt8) : Ret2 T 0 i_stillageref06_Find [l.v, .s nm] [] (fun v h' => v = .i .i64 (fnd nm l.ns 0) ∧ h' = []) := by
  obtain ⟨l, es⟩ := l
  simp only at hl
  refine Ret2_fnv c.find rfl rfl ?_
  unfold Lay.v
  (repeat' with_reducible first |apply qA|apply qB|apply qC|apply qD|apply qE|apply qF|(apply qG;decide)|apply qH|apply qI|apply qJ|apply qK|((first|apply qL|apply qM|apply qN|apply qO|((first|apply qP|apply qQ);decide +kernel));(conv=>lhs;simp only[go_sem, ibin, ishift])<;>rfl)|((first|apply qR|apply qS);(conv=>lhs;simp only[go_sem])<;>rfl;rfl)|((first|apply qT|apply qU);(conv=>lhs;simp only[go_sem])<;>rfl;rfl)|apply qV|apply qW|apply qX|apply qY|apply qZ)
  refine W2_loopu (fun m u g => ∃ j, j + m = l.length ∧ (∀ y ∈ l.take j, y.name ≠ nm) ∧ u = [(9, .i .i64 j)] ∧ g = []) l.length ⟨0, by omega, by simp, rfl, rfl⟩ rfl rfl ?_
  rintro m u g ⟨j, hj, hno, rfl, rfl⟩
  intro e1 h1 he1 hh1; simp only [egd, supE, hgd, supH, Nat.reduceEqDiff, Nat.reduceAdd, if_true, if_false, reduceIte] at he1 hh1; subst he1; subst hh1
  (repeat' with_reducible first |apply qA|apply qB|apply qC|apply qD|apply qE|apply qF|(apply qG;decide)|apply qH|apply qI|apply qJ|apply qK|((first|apply qL|apply qM|apply qN|apply qO|((first|apply qP|apply qQ);decide +kernel));(conv=>lhs;simp only[go_sem, ibin, ishift])<;>rfl)|((first|apply qR|apply qS);(conv=>lhs;simp only[go_sem])<;>rfl;rfl)|((first|apply qT|apply qU);(conv=>lhs;simp only[go_sem])<;>rfl;rfl)|apply qV|apply qW|apply qX|apply qY|apply qZ)
  (((first | with_reducible apply W2_sc | with_reducible apply W2_cond); ((conv => lhs; simp only [go_sem]) <;> with_reducible rfl)) <;> intro hx <;> (try rw [hx]) <;> simp only [Bool.or_eq_true, Bool.and_eq_true, decide_eq_true_eq, Bool.or_eq_false_iff, Bool.and_eq_false_iff, decide_eq_false_iff_not, Bool.not_eq_true', Bool.not_eq_false', bne_iff_ne, beq_iff_eq, not_or, not_and, Decidable.not_not, ne_eq, gt_iff_lt, ge_iff_le, Int.not_lt, Int.not_le] at hx)
  · have hjl : j < l.length := by omega
    have hg := List.getElem?_eq_getElem hjl
    have htk : l.take (j + 1) = l.take j ++ [l[j]] := by rw [List.take_add_one, List.getElem?_eq_getElem hjl]; rfl
    have hmem := List.getElem_mem hjl
    generalize l[j] = y at hg htk hmem
    have h0 : (0 : Int) ≤ (j : Int) := by omega
    have h1 : (j : Int) < (l.length : Int) := by omega
    (repeat' with_reducible first |apply qA|apply qB|apply qC|apply qD|apply qE|apply qF|(apply qG;decide)|apply qH|apply qI|apply qJ|apply qK|((first|apply qL|apply qM|apply qN|apply qO|((first|apply qP|apply qQ);decide +kernel));(conv=>lhs;simp only[go_sem, ibin, ishift, hg, hjl, cN, h0, h1])<;>rfl)|((first|apply qR|apply qS);(conv=>lhs;simp only[go_sem])<;>rfl;rfl)|((first|apply qT|apply qU);(conv=>lhs;simp only[go_sem])<;>rfl;rfl)|apply qV|apply qW|apply qX|apply qY|apply qZ)
    (((first | with_reducible apply W2_sc | with_reducible apply W2_cond); ((conv => lhs; simp only [go_sem]) <;> with_reducible rfl)) <;> intro hx <;> (try rw [hx]) <;> simp only [Bool.or_eq_true, Bool.and_eq_true, decide_eq_true_eq, Bool.or_eq_false_iff, Bool.and_eq_false_iff, decide_eq_false_iff_not, Bool.not_eq_true', Bool.not_eq_false', bne_iff_ne, beq_iff_eq, not_or, not_and, Decidable.not_not, ne_eq, gt_iff_lt, ge_iff_le, Int.not_lt, Int.not_le] at hx)
    · (repeat' with_reducible first |apply qA|apply qB|apply qC|apply qD|apply qE|apply qF|(apply qG;decide)|apply qH|apply qI|apply qJ|apply qK|((first|apply qL|apply qM|apply qN|apply qO|((first|apply qP|apply qQ);decide +kernel));(conv=>lhs;simp only[go_sem, ibin, ishift])<;>rfl)|((first|apply qR|apply qS);(conv=>lhs;simp only[go_sem])<;>rfl;rfl)|((first|apply qT|apply qU);(conv=>lhs;simp only[go_sem])<;>rfl;rfl)|apply qV|apply qW|apply qX|apply qY|apply qZ)
      refine ⟨by first | exact .inr rfl | exact .inl rfl, _, _, (by (conv => lhs; simp only [go_sem, ibin, ishift]) <;> with_reducible rfl), (by (conv => lhs; simp only [go_sem, ibin, ishift]) <;> with_reducible rfl), ?_⟩
      refine ⟨[], by decide, rfl, ?_⟩
      exact ⟨by rw [fnd_here hno hg hx]; rfl, rfl⟩
    · (repeat' with_reducible first |apply qA|apply qB|apply qC|apply qD|apply qE|apply qF|(apply qG;decide)|apply qH|apply qI|apply qJ|apply qK|((first|apply qL|apply qM|apply qN|apply qO|((first|apply qP|apply qQ);decide +kernel));(conv=>lhs;simp only[go_sem, ibin, ishift, wS (show j < 9223372036854775807 by omega)])<;>rfl)|((first|apply qR|apply qS);(conv=>lhs;simp only[go_sem])<;>rfl;rfl)|((first|apply qT|apply qU);(conv=>lhs;simp only[go_sem])<;>rfl;rfl)|apply qV|apply qW|apply qX|apply qY|apply qZ)
      refine ⟨[0], by decide, rfl, ?_⟩
      exact ⟨l.length - (j + 1), _, _, by omega, ⟨j + 1, by omega, fun z hz => by
        rw [htk] at hz
        rcases List.mem_append.1 hz with hz | hz
        · exact hno z hz
        · rw [List.mem_singleton.1 hz]; exact hx, rfl, rfl⟩, rfl, (by first | rfl | ((conv => lhs; simp only [go_sem, ibin, ishift]) <;> rfl))⟩
  · (repeat' with_reducible first |apply qA|apply qB|apply qC|apply qD|apply qE|apply qF|(apply qG;decide)|apply qH|apply qI|apply qJ|apply qK|((first|apply qL|apply qM|apply qN|apply qO|((first|apply qP|apply qQ);decide +kernel));(conv=>lhs;simp only[go_sem, ibin, ishift])<;>rfl)|((first|apply qR|apply qS);(conv=>lhs;simp only[go_sem])<;>rfl;rfl)|((first|apply qT|apply qU);(conv=>lhs;simp only[go_sem])<;>rfl;rfl)|apply qV|apply qW|apply qX|apply qY|apply qZ)
    refine ⟨by first | exact .inr rfl | exact .inl rfl, _, _, (by (conv => lhs; simp only [go_sem, ibin, ishift]) <;> with_reducible rfl), (by (conv => lhs; simp only [go_sem, ibin, ishift]) <;> with_reducible rfl), ?_⟩
    refine ⟨[], by decide, rfl, ?_⟩
    have hjn : j = l.length := by omega
    subst hjn
    rw [List.take_length] at hno
    exact ⟨by rw [fnd_none hno]; rfl, rfl⟩
theorem fnd_le {nm : List UInt8} : ∀ {l : List Nd} {i j : Nat} {y : Nd}, l[i]? = some y → y.name = nm → fnd nm l j ≤ (j + i : Nat)
  | [], i, j, y, h, _ => by simp at h
  | x :: l, 0, j, y, h, hy => by
    simp at h; subst h
    rw [fnd, if_pos hy]; omega
  | x :: l, i + 1, j, y, h, hy => by
    rw [fnd]
    split
    · omega
    · have := fnd_le (j := j + 1) (show l[i]? = some y by simpa using h) hy
      omega
theorem okN_bad {pre : List Nd} {x : Nd} (h : ¬(nameOk x.name = true ∧ (1 ≤ x.kind ∧ x.kind ≤ 4) ∧ (0 ≤ x.zone ∧ x.zone ≤ 7))) : okN pre x = false := by
  cases hb : okN pre x with
  | false => rfl
  | true =>
    obtain ⟨h1, h2, h3, h4, h5, _⟩ := okN_name hb
    exact (h ⟨h1, ⟨h2, h3⟩, h4, h5⟩).elim
set_option maxHeartbeats 2000000 in
theorem good_spec (c : TabG T) (l : Lay) (hl : l.ns.length ≤ 1000000 ∧ l.es.length ≤ 1000000) (hs : ∀ x ∈ l.ns, x.name.length ≤ 9223372036854775807) : Ret2 T 0 i_stillageref06_Good [l.v] [] (fun v h' => v = .b l.good ∧ h' = []) := by
  obtain ⟨ns, es⟩ := l
  simp only at hl hs
  refine Ret2_fnv c.good rfl rfl ?_
  unfold Lay.v
  simp only
  (repeat' with_reducible first |apply qA|apply qB|apply qC|apply qD|apply qE|apply qF|(apply qG;decide)|apply qH|apply qI|apply qJ|apply qK|((first|apply qL|apply qM|apply qN|apply qO|((first|apply qP|apply qQ);decide +kernel));(conv=>lhs;simp only[go_sem, ibin, ishift])<;>rfl)|((first|apply qR|apply qS);(conv=>lhs;simp only[go_sem])<;>rfl;rfl)|((first|apply qT|apply qU);(conv=>lhs;simp only[go_sem])<;>rfl;rfl)|apply qV|apply qW|apply qX|apply qY|apply qZ)
  by_cases hsz : 1 ≤ ns.length ∧ ns.length ≤ 40 ∧ es.length ≤ 120
  rotate_left
  · rw [show (decide ((ns.length : Int) < 1) || decide ((ns.length : Int) > 40) || decide ((es.length : Int) > 120)) = true by
      simp only [Bool.or_eq_true, decide_eq_true_eq]; omega]
    (repeat' with_reducible first |apply qA|apply qB|apply qC|apply qD|apply qE|apply qF|(apply qG;decide)|apply qH|apply qI|apply qJ|apply qK|((first|apply qL|apply qM|apply qN|apply qO|((first|apply qP|apply qQ);decide +kernel));(conv=>lhs;simp only[go_sem, ibin, ishift])<;>rfl)|((first|apply qR|apply qS);(conv=>lhs;simp only[go_sem])<;>rfl;rfl)|((first|apply qT|apply qU);(conv=>lhs;simp only[go_sem])<;>rfl;rfl)|apply qV|apply qW|apply qX|apply qY|apply qZ)
    refine ⟨by first | exact .inr rfl | exact .inl rfl, _, _, (by (conv => lhs; simp only [go_sem, ibin, ishift]) <;> with_reducible rfl), (by (conv => lhs; simp only [go_sem, ibin, ishift]) <;> with_reducible rfl), ?_⟩
    refine ⟨[], by decide, rfl, ?_⟩
    exact ⟨by rw [good_size hsz]; rfl, rfl⟩
  rw [show (decide ((ns.length : Int) < 1) || decide ((ns.length : Int) > 40) || decide ((es.length : Int) > 120)) = false by
    simp only [Bool.or_eq_false_iff, decide_eq_false_iff_not]; omega]
  (repeat' with_reducible first |apply qA|apply qB|apply qC|apply qD|apply qE|apply qF|(apply qG;decide)|apply qH|apply qI|apply qJ|apply qK|((first|apply qL|apply qM|apply qN|apply qO|((first|apply qP|apply qQ);decide +kernel));(conv=>lhs;simp only[go_sem, ibin, ishift])<;>rfl)|((first|apply qR|apply qS);(conv=>lhs;simp only[go_sem])<;>rfl;rfl)|((first|apply qT|apply qU);(conv=>lhs;simp only[go_sem])<;>rfl;rfl)|apply qV|apply qW|apply qX|apply qY|apply qZ)
  refine W2_loopu (fun m u g => ∃ j, j + m = ns.length ∧ (∀ i < j, ∀ x, ns[i]? = some x → okN (ns.take i) x = true) ∧ u = [(28, .i .i64 j)] ∧ g = []) ns.length ⟨0, by omega, fun i hi => by omega, rfl, rfl⟩ rfl rfl ?_
  rintro m u g ⟨j, hj, hok, rfl, rfl⟩
  intro e1 h1 he1 hh1; simp only [egd, supE, hgd, supH, Nat.reduceEqDiff, Nat.reduceAdd, if_true, if_false, reduceIte] at he1 hh1; subst he1; subst hh1
  (repeat' with_reducible first |apply qA|apply qB|apply qC|apply qD|apply qE|apply qF|(apply qG;decide)|apply qH|apply qI|apply qJ|apply qK|((first|apply qL|apply qM|apply qN|apply qO|((first|apply qP|apply qQ);decide +kernel));(conv=>lhs;simp only[go_sem, ibin, ishift])<;>rfl)|((first|apply qR|apply qS);(conv=>lhs;simp only[go_sem])<;>rfl;rfl)|((first|apply qT|apply qU);(conv=>lhs;simp only[go_sem])<;>rfl;rfl)|apply qV|apply qW|apply qX|apply qY|apply qZ)
  (((first | with_reducible apply W2_sc | with_reducible apply W2_cond); ((conv => lhs; simp only [go_sem]) <;> with_reducible rfl)) <;> intro hx <;> (try rw [hx]) <;> simp only [Bool.or_eq_true, Bool.and_eq_true, decide_eq_true_eq, Bool.or_eq_false_iff, Bool.and_eq_false_iff, decide_eq_false_iff_not, Bool.not_eq_true', Bool.not_eq_false', bne_iff_ne, beq_iff_eq, not_or, not_and, Decidable.not_not, ne_eq, gt_iff_lt, ge_iff_le, Int.not_lt, Int.not_le] at hx)
  · have hjl : j < ns.length := by omega
    have hg := List.getElem?_eq_getElem hjl
    have htk : ns.take (j + 1) = ns.take j ++ [ns[j]] := by rw [List.take_add_one, List.getElem?_eq_getElem hjl]; rfl
    have hmem := List.getElem_mem hjl
    generalize ns[j] = x at hg htk hmem
    have h0 : (0 : Int) ≤ (j : Int) := by omega
    have h1 : (j : Int) < (ns.length : Int) := by omega
    (repeat' with_reducible first |apply qA|apply qB|apply qC|apply qD|apply qE|apply qF|(apply qG;decide)|apply qH|apply qI|apply qJ|apply qK|((first|apply qL|apply qM|apply qN|apply qO|((first|apply qP|apply qQ);decide +kernel));(conv=>lhs;simp only[go_sem, ibin, ishift, hg, hjl, h0, h1, cN])<;>rfl)|((first|apply qR|apply qS);(conv=>lhs;simp only[go_sem])<;>rfl;rfl)|((first|apply qT|apply qU);(conv=>lhs;simp only[go_sem])<;>rfl;rfl)|apply qV|apply qW|apply qX|apply qY|apply qZ)
    (with_reducible((first|apply pA|apply pB|apply pC|apply pD|apply pE|((first|apply pF|apply pG);decide +kernel));(conv=>lhs;simp only[go_sem, ibin, ishift])<;>rfl))
    refine CK_pure (rname_spec c x.name (hs x hmem)) rfl ?_
    rintro v h' ⟨rfl, rfl⟩
    cases hnm : nameOk x.name with
    | false =>
      have hbad : okN (ns.take j) x = false := okN_bad fun h => by rw [hnm] at h; cases h.1
      ((with_reducible first | apply WO2_finl | apply WO2_finlq); ((conv => lhs; simp only [go_sem, ibin, ishift, Bool.true_or]) <;> with_reducible rfl))
      (repeat' with_reducible first |apply qA|apply qB|apply qC|apply qD|apply qE|apply qF|(apply qG;decide)|apply qH|apply qI|apply qJ|apply qK|((first|apply qL|apply qM|apply qN|apply qO|((first|apply qP|apply qQ);decide +kernel));(conv=>lhs;simp only[go_sem, ibin, ishift])<;>rfl)|((first|apply qR|apply qS);(conv=>lhs;simp only[go_sem])<;>rfl;rfl)|((first|apply qT|apply qU);(conv=>lhs;simp only[go_sem])<;>rfl;rfl)|apply qV|apply qW|apply qX|apply qY|apply qZ)
      refine ⟨by first | exact .inr rfl | exact .inl rfl, _, _, (by (conv => lhs; simp only [go_sem, ibin, ishift]) <;> with_reducible rfl), (by (conv => lhs; simp only [go_sem, ibin, ishift]) <;> with_reducible rfl), ?_⟩
      refine ⟨[], by decide, rfl, ?_⟩
      exact ⟨by rw [good_node hg hbad]; rfl, rfl⟩
    | true =>
      by_cases k1 : x.kind < 1
      · have e1 : decide (x.kind < 1) = true := decide_eq_true k1
        have hbad : okN (ns.take j) x = false := okN_bad fun h => by omega
        ((with_reducible first | apply WO2_finl | apply WO2_finlq); ((conv => lhs; simp only [go_sem, ibin, ishift, e1]) <;> with_reducible rfl))
        (repeat' with_reducible first |apply qA|apply qB|apply qC|apply qD|apply qE|apply qF|(apply qG;decide)|apply qH|apply qI|apply qJ|apply qK|((first|apply qL|apply qM|apply qN|apply qO|((first|apply qP|apply qQ);decide +kernel));(conv=>lhs;simp only[go_sem, ibin, ishift])<;>rfl)|((first|apply qR|apply qS);(conv=>lhs;simp only[go_sem])<;>rfl;rfl)|((first|apply qT|apply qU);(conv=>lhs;simp only[go_sem])<;>rfl;rfl)|apply qV|apply qW|apply qX|apply qY|apply qZ)
        refine ⟨by first | exact .inr rfl | exact .inl rfl, _, _, (by (conv => lhs; simp only [go_sem, ibin, ishift]) <;> with_reducible rfl), (by (conv => lhs; simp only [go_sem, ibin, ishift]) <;> with_reducible rfl), ?_⟩
        refine ⟨[], by decide, rfl, ?_⟩
        exact ⟨by rw [good_node hg hbad]; rfl, rfl⟩
      have e1 : decide (x.kind < 1) = false := decide_eq_false k1
      by_cases k2 : x.kind > 4
      · have e2 : decide (x.kind > 4) = true := decide_eq_true k2
        have hbad : okN (ns.take j) x = false := okN_bad fun h => by omega
        ((with_reducible first | apply WO2_finl | apply WO2_finlq); ((conv => lhs; simp only [go_sem, ibin, ishift, e1, e2]) <;> with_reducible rfl))
        (repeat' with_reducible first |apply qA|apply qB|apply qC|apply qD|apply qE|apply qF|(apply qG;decide)|apply qH|apply qI|apply qJ|apply qK|((first|apply qL|apply qM|apply qN|apply qO|((first|apply qP|apply qQ);decide +kernel));(conv=>lhs;simp only[go_sem, ibin, ishift])<;>rfl)|((first|apply qR|apply qS);(conv=>lhs;simp only[go_sem])<;>rfl;rfl)|((first|apply qT|apply qU);(conv=>lhs;simp only[go_sem])<;>rfl;rfl)|apply qV|apply qW|apply qX|apply qY|apply qZ)
        refine ⟨by first | exact .inr rfl | exact .inl rfl, _, _, (by (conv => lhs; simp only [go_sem, ibin, ishift]) <;> with_reducible rfl), (by (conv => lhs; simp only [go_sem, ibin, ishift]) <;> with_reducible rfl), ?_⟩
        refine ⟨[], by decide, rfl, ?_⟩
        exact ⟨by rw [good_node hg hbad]; rfl, rfl⟩
      have e2 : decide (x.kind > 4) = false := decide_eq_false k2
      by_cases k3 : x.zone < 0
      · have e3 : decide (x.zone < 0) = true := decide_eq_true k3
        have hbad : okN (ns.take j) x = false := okN_bad fun h => by omega
        ((with_reducible first | apply WO2_finl | apply WO2_finlq); ((conv => lhs; simp only [go_sem, ibin, ishift, e1, e2, e3]) <;> with_reducible rfl))
        (repeat' with_reducible first |apply qA|apply qB|apply qC|apply qD|apply qE|apply qF|(apply qG;decide)|apply qH|apply qI|apply qJ|apply qK|((first|apply qL|apply qM|apply qN|apply qO|((first|apply qP|apply qQ);decide +kernel));(conv=>lhs;simp only[go_sem, ibin, ishift])<;>rfl)|((first|apply qR|apply qS);(conv=>lhs;simp only[go_sem])<;>rfl;rfl)|((first|apply qT|apply qU);(conv=>lhs;simp only[go_sem])<;>rfl;rfl)|apply qV|apply qW|apply qX|apply qY|apply qZ)
        refine ⟨by first | exact .inr rfl | exact .inl rfl, _, _, (by (conv => lhs; simp only [go_sem, ibin, ishift]) <;> with_reducible rfl), (by (conv => lhs; simp only [go_sem, ibin, ishift]) <;> with_reducible rfl), ?_⟩
        refine ⟨[], by decide, rfl, ?_⟩
        exact ⟨by rw [good_node hg hbad]; rfl, rfl⟩
      have e3 : decide (x.zone < 0) = false := decide_eq_false k3
      by_cases k4 : x.zone > 7
      · have e4 : decide (x.zone > 7) = true := decide_eq_true k4
        have hbad : okN (ns.take j) x = false := okN_bad fun h => by omega
        ((with_reducible first | apply WO2_finl | apply WO2_finlq); ((conv => lhs; simp only [go_sem, ibin, ishift, e1, e2, e3, e4]) <;> with_reducible rfl))
        (repeat' with_reducible first |apply qA|apply qB|apply qC|apply qD|apply qE|apply qF|(apply qG;decide)|apply qH|apply qI|apply qJ|apply qK|((first|apply qL|apply qM|apply qN|apply qO|((first|apply qP|apply qQ);decide +kernel));(conv=>lhs;simp only[go_sem, ibin, ishift])<;>rfl)|((first|apply qR|apply qS);(conv=>lhs;simp only[go_sem])<;>rfl;rfl)|((first|apply qT|apply qU);(conv=>lhs;simp only[go_sem])<;>rfl;rfl)|apply qV|apply qW|apply qX|apply qY|apply qZ)
        refine ⟨by first | exact .inr rfl | exact .inl rfl, _, _, (by (conv => lhs; simp only [go_sem, ibin, ishift]) <;> with_reducible rfl), (by (conv => lhs; simp only [go_sem, ibin, ishift]) <;> with_reducible rfl), ?_⟩
        refine ⟨[], by decide, rfl, ?_⟩
        exact ⟨by rw [good_node hg hbad]; rfl, rfl⟩
      have e4 : decide (x.zone > 7) = false := decide_eq_false k4
      (with_reducible((first|apply pA|apply pB|apply pC|apply pD|apply pE|((first|apply pF|apply pG);decide +kernel));(conv=>lhs;simp only[go_sem, ibin, ishift, e1, e2, e3, e4])<;>rfl))
      refine CK_pure (find_spec c ⟨ns, es⟩ hl.1 x.name) (by first | rfl | (simp only [go_sem, Lay.v]; done) | (simp only [go_sem, Lay.v] <;> rfl)) ?_
      rintro v h' ⟨rfl, rfl⟩
      simp only
      by_cases hno : ∀ y ∈ ns.take j, y.name ≠ x.name
      · have hf := fnd_here hno hg rfl
        have hb : okN (ns.take j) x = true := by
          rw [okN_new hno]
          simp only [hnm, e1, e2, e3, decide_eq_false (show ¬(x.zone ≥ 8) by omega)]
          rfl
        rw [hf]
        have dj : decide ((j : Int) = (j : Int)) = true := by simp
        (with_reducible((first|apply WO2_finw|apply WO2_fina);(conv=>lhs;simp only[go_sem, ibin, ishift, dj])<;>rfl))
        (repeat' with_reducible first |apply qA|apply qB|apply qC|apply qD|apply qE|apply qF|(apply qG;decide)|apply qH|apply qI|apply qJ|apply qK|((first|apply qL|apply qM|apply qN|apply qO|((first|apply qP|apply qQ);decide +kernel));(conv=>lhs;simp only[go_sem, ibin, ishift, wS (show j < 9223372036854775807 by omega)])<;>rfl)|((first|apply qR|apply qS);(conv=>lhs;simp only[go_sem])<;>rfl;rfl)|((first|apply qT|apply qU);(conv=>lhs;simp only[go_sem])<;>rfl;rfl)|apply qV|apply qW|apply qX|apply qY|apply qZ)
        refine ⟨[0], by decide, rfl, ?_⟩
        exact ⟨ns.length - (j + 1), _, _, by omega, ⟨j + 1, by omega, fun i hi c h => by
          by_cases e : i = j
          · subst e; rw [hg] at h; cases h; exact hb
          · exact hok i (by omega) c h, rfl, rfl⟩, rfl, (by first | rfl | ((conv => lhs; simp only [go_sem, ibin, ishift]) <;> rfl))⟩
      · have hbad : okN (ns.take j) x = false := by
          cases hb : okN (ns.take j) x with
          | false => rfl
          | true => exact (hno (okN_name hb).2.2.2.2.2).elim
        have dj : decide (fnd x.name ns 0 = (j : Int)) = false := decide_eq_false fun h => hno fun y hy e => by
          obtain ⟨i, hi⟩ := List.mem_iff_getElem?.1 hy
          rw [List.getElem?_take] at hi
          split at hi
          · rename_i hlt
            have := fnd_le (j := 0) hi e
            omega
          · cases hi
        ((with_reducible first | apply WO2_finl | apply WO2_finlq); ((conv => lhs; simp only [go_sem, ibin, ishift, dj]) <;> with_reducible rfl))
        (repeat' with_reducible first |apply qA|apply qB|apply qC|apply qD|apply qE|apply qF|(apply qG;decide)|apply qH|apply qI|apply qJ|apply qK|((first|apply qL|apply qM|apply qN|apply qO|((first|apply qP|apply qQ);decide +kernel));(conv=>lhs;simp only[go_sem, ibin, ishift])<;>rfl)|((first|apply qR|apply qS);(conv=>lhs;simp only[go_sem])<;>rfl;rfl)|((first|apply qT|apply qU);(conv=>lhs;simp only[go_sem])<;>rfl;rfl)|apply qV|apply qW|apply qX|apply qY|apply qZ)
        refine ⟨by first | exact .inr rfl | exact .inl rfl, _, _, (by (conv => lhs; simp only [go_sem, ibin, ishift]) <;> with_reducible rfl), (by (conv => lhs; simp only [go_sem, ibin, ishift]) <;> with_reducible rfl), ?_⟩
        refine ⟨[], by decide, rfl, ?_⟩
        exact ⟨by rw [good_node hg hbad]; rfl, rfl⟩
  have hjn : j = ns.length := by omega
  subst hjn
  have hN := allOk_true hok
  (repeat' with_reducible first |apply qA|apply qB|apply qC|apply qD|apply qE|apply qF|(apply qG;decide)|apply qH|apply qI|apply qJ|apply qK|((first|apply qL|apply qM|apply qN|apply qO|((first|apply qP|apply qQ);decide +kernel));(conv=>lhs;simp only[go_sem, ibin, ishift])<;>rfl)|((first|apply qR|apply qS);(conv=>lhs;simp only[go_sem])<;>rfl;rfl)|((first|apply qT|apply qU);(conv=>lhs;simp only[go_sem])<;>rfl;rfl)|apply qV|apply qW|apply qX|apply qY|apply qZ)
  refine W2_loopu (fun m u g => ∃ j, j + m = es.length ∧ (∀ i < j, ∀ x, es[i]? = some x → okE ns (es.take i) x = true) ∧ u = [(72, .i .i64 j)] ∧ g = []) es.length ⟨0, by omega, fun i hi => by omega, rfl, rfl⟩ rfl rfl ?_
  rintro m u g ⟨j, hj, hok, rfl, rfl⟩
  intro e1 h1 he1 hh1; simp only [egd, supE, hgd, supH, Nat.reduceEqDiff, Nat.reduceAdd, if_true, if_false, reduceIte] at he1 hh1; subst he1; subst hh1
  (repeat' with_reducible first |apply qA|apply qB|apply qC|apply qD|apply qE|apply qF|(apply qG;decide)|apply qH|apply qI|apply qJ|apply qK|((first|apply qL|apply qM|apply qN|apply qO|((first|apply qP|apply qQ);decide +kernel));(conv=>lhs;simp only[go_sem, ibin, ishift])<;>rfl)|((first|apply qR|apply qS);(conv=>lhs;simp only[go_sem])<;>rfl;rfl)|((first|apply qT|apply qU);(conv=>lhs;simp only[go_sem])<;>rfl;rfl)|apply qV|apply qW|apply qX|apply qY|apply qZ)
  (((first | with_reducible apply W2_sc | with_reducible apply W2_cond); ((conv => lhs; simp only [go_sem]) <;> with_reducible rfl)) <;> intro hx <;> (try rw [hx]) <;> simp only [Bool.or_eq_true, Bool.and_eq_true, decide_eq_true_eq, Bool.or_eq_false_iff, Bool.and_eq_false_iff, decide_eq_false_iff_not, Bool.not_eq_true', Bool.not_eq_false', bne_iff_ne, beq_iff_eq, not_or, not_and, Decidable.not_not, ne_eq, gt_iff_lt, ge_iff_le, Int.not_lt, Int.not_le] at hx)
  · have hjl : j < es.length := by omega
    have hg := List.getElem?_eq_getElem hjl
    have htk : es.take (j + 1) = es.take j ++ [es[j]] := by rw [List.take_add_one, List.getElem?_eq_getElem hjl]; rfl
    have hmem := List.getElem_mem hjl
    generalize es[j] = x at hg htk hmem
    have h0 : (0 : Int) ≤ (j : Int) := by omega
    have h1 : (j : Int) < (es.length : Int) := by omega
    (repeat' with_reducible first |apply qA|apply qB|apply qC|apply qD|apply qE|apply qF|(apply qG;decide)|apply qH|apply qI|apply qJ|apply qK|((first|apply qL|apply qM|apply qN|apply qO|((first|apply qP|apply qQ);decide +kernel));(conv=>lhs;simp only[go_sem, ibin, ishift, hg, hjl, h0, h1, cD])<;>rfl)|((first|apply qR|apply qS);(conv=>lhs;simp only[go_sem])<;>rfl;rfl)|((first|apply qT|apply qU);(conv=>lhs;simp only[go_sem])<;>rfl;rfl)|apply qV|apply qW|apply qX|apply qY|apply qZ)
    by_cases hr : 0 ≤ x.a ∧ x.a < ns.length ∧ 0 ≤ x.b ∧ x.b < ns.length ∧ x.a ≠ x.b
    rotate_left
    · have hbad : okE ns (es.take j) x = false := okE_not fun k => by omega
      rw [show (decide (x.a < 0) || decide (x.b < 0) || decide (x.a ≥ (ns.length : Int)) || decide (x.b ≥ (ns.length : Int)) || decide (x.a = x.b)) = true by
        simp only [Bool.or_eq_true, decide_eq_true_eq]; omega]
      (repeat' with_reducible first |apply qA|apply qB|apply qC|apply qD|apply qE|apply qF|(apply qG;decide)|apply qH|apply qI|apply qJ|apply qK|((first|apply qL|apply qM|apply qN|apply qO|((first|apply qP|apply qQ);decide +kernel));(conv=>lhs;simp only[go_sem, ibin, ishift])<;>rfl)|((first|apply qR|apply qS);(conv=>lhs;simp only[go_sem])<;>rfl;rfl)|((first|apply qT|apply qU);(conv=>lhs;simp only[go_sem])<;>rfl;rfl)|apply qV|apply qW|apply qX|apply qY|apply qZ)
      refine ⟨by first | exact .inr rfl | exact .inl rfl, _, _, (by (conv => lhs; simp only [go_sem, ibin, ishift]) <;> with_reducible rfl), (by (conv => lhs; simp only [go_sem, ibin, ishift]) <;> with_reducible rfl), ?_⟩
      refine ⟨[], by decide, rfl, ?_⟩
      exact ⟨by rw [good_edge hg hbad]; rfl, rfl⟩
    rw [show (decide (x.a < 0) || decide (x.b < 0) || decide (x.a ≥ (ns.length : Int)) || decide (x.b ≥ (ns.length : Int)) || decide (x.a = x.b)) = false by
      simp only [Bool.or_eq_false_iff, decide_eq_false_iff_not]; omega]
    obtain ⟨a0, a1, b0, b1, hab⟩ := hr
    have a2 : x.a.toNat < ns.length := by omega
    have b2 : x.b.toNat < ns.length := by omega
    obtain ⟨p, hp⟩ : ∃ p, ns[x.a.toNat]? = some p := ⟨_, List.getElem?_eq_getElem a2⟩
    obtain ⟨q, hq⟩ : ∃ q, ns[x.b.toNat]? = some q := ⟨_, List.getElem?_eq_getElem b2⟩
    have ka : kindAt ns x.a = p.kind := by simp only [kindAt, hp]
    have kb : kindAt ns x.b = q.kind := by simp only [kindAt, hq]
    (repeat' with_reducible first |apply qA|apply qB|apply qC|apply qD|apply qE|apply qF|(apply qG;decide)|apply qH|apply qI|apply qJ|apply qK|((first|apply qL|apply qM|apply qN|apply qO|((first|apply qP|apply qQ);decide +kernel));(conv=>lhs;simp only[go_sem, ibin, ishift, a0, a1, a2, b0, b1, b2, hp, hq, cN])<;>rfl)|((first|apply qR|apply qS);(conv=>lhs;simp only[go_sem])<;>rfl;rfl)|((first|apply qT|apply qU);(conv=>lhs;simp only[go_sem])<;>rfl;rfl)|apply qV|apply qW|apply qX|apply qY|apply qZ)
    by_cases hkd : p.kind = 1 ∨ q.kind = 1
    rotate_left
    · have hbad : okE ns (es.take j) x = false := okE_not fun k => by rw [ka, kb] at k; exact hkd k.2.2.2.1
      rw [show (!decide (p.kind = 1) && !decide (q.kind = 1)) = true by simpa [not_or] using hkd]
      (repeat' with_reducible first |apply qA|apply qB|apply qC|apply qD|apply qE|apply qF|(apply qG;decide)|apply qH|apply qI|apply qJ|apply qK|((first|apply qL|apply qM|apply qN|apply qO|((first|apply qP|apply qQ);decide +kernel));(conv=>lhs;simp only[go_sem, ibin, ishift])<;>rfl)|((first|apply qR|apply qS);(conv=>lhs;simp only[go_sem])<;>rfl;rfl)|((first|apply qT|apply qU);(conv=>lhs;simp only[go_sem])<;>rfl;rfl)|apply qV|apply qW|apply qX|apply qY|apply qZ)
      refine ⟨by first | exact .inr rfl | exact .inl rfl, _, _, (by (conv => lhs; simp only [go_sem, ibin, ishift]) <;> with_reducible rfl), (by (conv => lhs; simp only [go_sem, ibin, ishift]) <;> with_reducible rfl), ?_⟩
      refine ⟨[], by decide, rfl, ?_⟩
      exact ⟨by rw [good_edge hg hbad]; rfl, rfl⟩
    rw [show (!decide (p.kind = 1) && !decide (q.kind = 1)) = false by
      rw [← Bool.not_eq_true]; intro h; simp only [Bool.and_eq_true, Bool.not_eq_true', decide_eq_false_iff_not] at h; exact hkd.elim h.1 h.2]
    (repeat' with_reducible first |apply qA|apply qB|apply qC|apply qD|apply qE|apply qF|(apply qG;decide)|apply qH|apply qI|apply qJ|apply qK|((first|apply qL|apply qM|apply qN|apply qO|((first|apply qP|apply qQ);decide +kernel));(conv=>lhs;simp only[go_sem, ibin, ishift])<;>rfl)|((first|apply qR|apply qS);(conv=>lhs;simp only[go_sem])<;>rfl;rfl)|((first|apply qT|apply qU);(conv=>lhs;simp only[go_sem])<;>rfl;rfl)|apply qV|apply qW|apply qX|apply qY|apply qZ)
    refine W2_loopu (fun m u g => ∃ k, k + m = j ∧ (∀ f ∈ es.take k, f ≠ x) ∧ u = [(8, .i .i64 k)] ∧ g = []) j ⟨0, by omega, by simp, rfl, rfl⟩ rfl rfl ?_
    rintro m u g ⟨k, hk, hno, rfl, rfl⟩
    intro e1 h1 he1 hh1; simp only [egd, supE, hgd, supH, Nat.reduceEqDiff, Nat.reduceAdd, if_true, if_false, reduceIte] at he1 hh1; subst he1; subst hh1
    (repeat' with_reducible first |apply qA|apply qB|apply qC|apply qD|apply qE|apply qF|(apply qG;decide)|apply qH|apply qI|apply qJ|apply qK|((first|apply qL|apply qM|apply qN|apply qO|((first|apply qP|apply qQ);decide +kernel));(conv=>lhs;simp only[go_sem, ibin, ishift])<;>rfl)|((first|apply qR|apply qS);(conv=>lhs;simp only[go_sem])<;>rfl;rfl)|((first|apply qT|apply qU);(conv=>lhs;simp only[go_sem])<;>rfl;rfl)|apply qV|apply qW|apply qX|apply qY|apply qZ)
    (((first | with_reducible apply W2_sc | with_reducible apply W2_cond); ((conv => lhs; simp only [go_sem]) <;> with_reducible rfl)) <;> intro hx <;> (try rw [hx]) <;> simp only [Bool.or_eq_true, Bool.and_eq_true, decide_eq_true_eq, Bool.or_eq_false_iff, Bool.and_eq_false_iff, decide_eq_false_iff_not, Bool.not_eq_true', Bool.not_eq_false', bne_iff_ne, beq_iff_eq, not_or, not_and, Decidable.not_not, ne_eq, gt_iff_lt, ge_iff_le, Int.not_lt, Int.not_le] at hx)
    · obtain ⟨f, hf⟩ : ∃ f, es[k]? = some f := ⟨_, List.getElem?_eq_getElem (by omega)⟩
      have k0 : (0 : Int) ≤ (k : Int) := by omega
      have k1 : (k : Int) < (es.length : Int) := by omega
      have k2 : k < es.length := by omega
      (repeat' with_reducible first |apply qA|apply qB|apply qC|apply qD|apply qE|apply qF|(apply qG;decide)|apply qH|apply qI|apply qJ|apply qK|((first|apply qL|apply qM|apply qN|apply qO|((first|apply qP|apply qQ);decide +kernel));(conv=>lhs;simp only[go_sem, ibin, ishift, hg, hjl, h0, h1, cD, hf, k0, k1, k2])<;>rfl)|((first|apply qR|apply qS);(conv=>lhs;simp only[go_sem])<;>rfl;rfl)|((first|apply qT|apply qU);(conv=>lhs;simp only[go_sem])<;>rfl;rfl)|apply qV|apply qW|apply qX|apply qY|apply qZ)
      by_cases hfx : f = x
      · have hbad : okE ns (es.take j) x = false := okE_not fun h => h.2.2.2.2 f (List.mem_of_getElem? (by rw [List.getElem?_take, if_pos (show k < j by omega)]; exact hf)) hfx
        rw [show (!!(decide (f.a = x.a) && decide (f.b = x.b))) = true by rw [hfx]; simp]
        (repeat' with_reducible first |apply qA|apply qB|apply qC|apply qD|apply qE|apply qF|(apply qG;decide)|apply qH|apply qI|apply qJ|apply qK|((first|apply qL|apply qM|apply qN|apply qO|((first|apply qP|apply qQ);decide +kernel));(conv=>lhs;simp only[go_sem, ibin, ishift])<;>rfl)|((first|apply qR|apply qS);(conv=>lhs;simp only[go_sem])<;>rfl;rfl)|((first|apply qT|apply qU);(conv=>lhs;simp only[go_sem])<;>rfl;rfl)|apply qV|apply qW|apply qX|apply qY|apply qZ)
        refine ⟨by first | exact .inr rfl | exact .inl rfl, _, _, (by (conv => lhs; simp only [go_sem, ibin, ishift]) <;> with_reducible rfl), (by (conv => lhs; simp only [go_sem, ibin, ishift]) <;> with_reducible rfl), ?_⟩
        refine ⟨[], by decide, rfl, ?_⟩
        exact ⟨by rw [good_edge hg hbad]; rfl, rfl⟩
      · rw [show (!!(decide (f.a = x.a) && decide (f.b = x.b))) = false by
          rw [← Bool.not_eq_true]; intro h; simp only [Bool.not_not, Bool.and_eq_true, decide_eq_true_eq] at h; exact hfx (Ed.p_inj (by simp [Ed.p, h.1, h.2]))]
        have hkt : es.take (k + 1) = es.take k ++ [f] := by rw [List.take_add_one, hf]; rfl
        (repeat' with_reducible first |apply qA|apply qB|apply qC|apply qD|apply qE|apply qF|(apply qG;decide)|apply qH|apply qI|apply qJ|apply qK|((first|apply qL|apply qM|apply qN|apply qO|((first|apply qP|apply qQ);decide +kernel));(conv=>lhs;simp only[go_sem, ibin, ishift, wS (show k < 9223372036854775807 by omega)])<;>rfl)|((first|apply qR|apply qS);(conv=>lhs;simp only[go_sem])<;>rfl;rfl)|((first|apply qT|apply qU);(conv=>lhs;simp only[go_sem])<;>rfl;rfl)|apply qV|apply qW|apply qX|apply qY|apply qZ)
        refine ⟨[0], by decide, rfl, ?_⟩
        exact ⟨j - (k + 1), _, _, by omega, ⟨k + 1, by omega, fun z hz => by
          rw [hkt] at hz
          rcases List.mem_append.1 hz with hz | hz
          · exact hno z hz
          · rw [List.mem_singleton.1 hz]; exact hfx, rfl, rfl⟩, rfl, (by first | rfl | ((conv => lhs; simp only [go_sem, ibin, ishift]) <;> rfl))⟩
    · have hkj : k = j := by omega
      subst hkj
      have hb : okE ns (es.take k) x = true := okE_iff.2 ⟨⟨a0, a1⟩, ⟨b0, b1⟩, hab, by rw [ka, kb]; exact hkd, hno⟩
      (repeat' with_reducible first |apply qA|apply qB|apply qC|apply qD|apply qE|apply qF|(apply qG;decide)|apply qH|apply qI|apply qJ|apply qK|((first|apply qL|apply qM|apply qN|apply qO|((first|apply qP|apply qQ);decide +kernel));(conv=>lhs;simp only[go_sem, ibin, ishift, wS (show k < 9223372036854775807 by omega)])<;>rfl)|((first|apply qR|apply qS);(conv=>lhs;simp only[go_sem])<;>rfl;rfl)|((first|apply qT|apply qU);(conv=>lhs;simp only[go_sem])<;>rfl;rfl)|apply qV|apply qW|apply qX|apply qY|apply qZ)
      refine ⟨[0], by decide, rfl, ?_⟩
      exact ⟨es.length - (k + 1), _, _, by omega, ⟨k + 1, by omega, fun i hi c h => by
        by_cases e : i = k
        · subst e; rw [hg] at h; cases h; exact hb
        · exact hok i (by omega) c h, rfl, rfl⟩, rfl, (by first | rfl | ((conv => lhs; simp only [go_sem, ibin, ishift]) <;> rfl))⟩
  · (repeat' with_reducible first |apply qA|apply qB|apply qC|apply qD|apply qE|apply qF|(apply qG;decide)|apply qH|apply qI|apply qJ|apply qK|((first|apply qL|apply qM|apply qN|apply qO|((first|apply qP|apply qQ);decide +kernel));(conv=>lhs;simp only[go_sem, ibin, ishift])<;>rfl)|((first|apply qR|apply qS);(conv=>lhs;simp only[go_sem])<;>rfl;rfl)|((first|apply qT|apply qU);(conv=>lhs;simp only[go_sem])<;>rfl;rfl)|apply qV|apply qW|apply qX|apply qY|apply qZ)
    refine ⟨by first | exact .inr rfl | exact .inl rfl, _, _, (by (conv => lhs; simp only [go_sem, ibin, ishift]) <;> with_reducible rfl), (by (conv => lhs; simp only [go_sem, ibin, ishift]) <;> with_reducible rfl), ?_⟩
    refine ⟨[], by decide, rfl, ?_⟩
    have hjn : j = es.length := by omega
    subst hjn
    have hE := allOk_true hok
    refine ⟨?_, rfl⟩
    rw [show Lay.good ⟨ns, es⟩ = true by simp only [Lay.good, hN, hE, Bool.and_true, Bool.and_eq_true, decide_eq_true_eq]; exact ⟨⟨hsz.1, hsz.2.1⟩, hsz.2.2⟩]
    rfl
end Go.Proofs.YtankmcjfglbbiaaDoor.Ab
