/- Chapter 05: the document's sender: a tick. -/
import Derived.Test.YtadbipeachcekaaY05m
namespace Go.Proofs.Ytadbipeachcekaa.Ab
open Go
set_option linter.unusedVariables false
set_option linter.unusedSimpArgs false
variable {T : AT}
/-- the end of a round: both lists have one more -/
theorem rtick_spec (c : TabR05 T) (r : Rs) (hb : r.dead = false → r.Bd) : Ret2 T 0 i_stillageref05_Tick [r.v] [] (fun v h' => v = .tup [r.tick.1.v, .fz 4 (r.tick.2.1.map cPn), .i .i64 r.tick.2.2] ∧ h' = []) := by
  refine Ret2_fnv c.rtick rfl rfl ?_
  unfold Rs.tick
  cases hd : r.dead with
  | true =>
    rw [if_pos rfl]
    unfold Rs.v
    rw [hd]
    ((repeat' with_reducible first |apply qA|apply qB|apply qC|apply qD|apply qE|apply qF|(apply qG;decide)|apply qH|apply qI|apply qJ|apply qK|apply qX|((first|apply qR|apply qS);(conv=>lhs;simp only[go_sem])<;>rfl;rfl)|((first|apply qT|apply qU);(conv=>lhs;simp only[go_sem])<;>rfl;rfl)|apply qZ|apply qY|apply qW);with_reducible((first|apply qL|apply qM|apply qN|apply qO|((first|apply qP|apply qQ);decide +kernel));(conv=>lhs;simp only[go_sem, ibin, ishift])<;>rfl))
    ((repeat' with_reducible first |apply qA|apply qB|apply qC|apply qD|apply qE|apply qF|(apply qG;decide)|apply qH|apply qI|apply qJ|apply qK|apply qX|((first|apply qR|apply qS);(conv=>lhs;simp only[go_sem])<;>rfl;rfl)|((first|apply qT|apply qU);(conv=>lhs;simp only[go_sem])<;>rfl;rfl)|apply qZ|apply qY|apply qW);with_reducible((first|apply qL|apply qM|apply qN|apply qO|((first|apply qP|apply qQ);decide +kernel));(conv=>lhs;simp only[go_sem, ibin, ishift])<;>rfl))
    ((repeat' with_reducible first |apply qA|apply qB|apply qC|apply qD|apply qE|apply qF|(apply qG;decide)|apply qH|apply qI|apply qJ|apply qK|apply qX|((first|apply qR|apply qS);(conv=>lhs;simp only[go_sem])<;>rfl;rfl)|((first|apply qT|apply qU);(conv=>lhs;simp only[go_sem])<;>rfl;rfl)|apply qZ|apply qY|apply qW);with_reducible((first|apply qL|apply qM|apply qN|apply qO|((first|apply qP|apply qQ);decide +kernel));(conv=>lhs;simp only[go_sem, ibin, ishift])<;>rfl))
    refine W2.weak (Wk.nilf 3 4 rfl) ?_
    (repeat' with_reducible first |apply qA|apply qB|apply qC|apply qD|apply qE|apply qF|(apply qG;decide)|apply qH|apply qI|apply qJ|apply qK|((first|apply qL|apply qM|apply qN|apply qO|((first|apply qP|apply qQ);decide +kernel));(conv=>lhs;simp only[go_sem, ibin, ishift])<;>rfl)|((first|apply qR|apply qS);(conv=>lhs;simp only[go_sem])<;>rfl;rfl)|((first|apply qT|apply qU);(conv=>lhs;simp only[go_sem])<;>rfl;rfl)|apply qV|apply qW|apply qX|apply qY|apply qZ)
    refine ⟨by first | exact .inr rfl | exact .inl rfl, _, _, (by (conv => lhs; simp only [go_sem, ibin, ishift]) <;> with_reducible rfl), (by (conv => lhs; simp only [go_sem, ibin, ishift]) <;> with_reducible rfl), ?_⟩
    refine ⟨[], by decide, rfl, ?_⟩
    exact ⟨rfl, rfl⟩
  | false =>
  have hb := hb hd
  rw [if_neg (by decide)]
  have hl := hb.len
  have ha := hb.hi
  unfold Rs.v
  rw [hd]
  (repeat' with_reducible first |apply qA|apply qB|apply qC|apply qD|apply qE|apply qF|(apply qG;decide)|apply qH|apply qI|apply qJ|apply qK|((first|apply qL|apply qM|apply qN|apply qO|((first|apply qP|apply qQ);decide +kernel));(conv=>lhs;simp only[go_sem, ibin, ishift])<;>rfl)|((first|apply qR|apply qS);(conv=>lhs;simp only[go_sem])<;>rfl;rfl)|((first|apply qT|apply qU);(conv=>lhs;simp only[go_sem])<;>rfl;rfl)|apply qV|apply qW|apply qX|apply qY|apply qZ)
  refine W2.wnil 5 4 rfl (by (conv => lhs; simp only [go_sem, ibin, ishift]) <;> with_reducible rfl) (by (conv => lhs; simp only [go_sem, ibin, ishift]) <;> with_reducible rfl) ?_
  refine W2.wnil 6 4 rfl (by (conv => lhs; simp only [go_sem, ibin, ishift]) <;> with_reducible rfl) (by (conv => lhs; simp only [go_sem, ibin, ishift]) <;> with_reducible rfl) ?_
  (repeat' with_reducible first |apply qA|apply qB|apply qC|apply qD|apply qE|apply qF|(apply qG;decide)|apply qH|apply qI|apply qJ|apply qK|((first|apply qL|apply qM|apply qN|apply qO|((first|apply qP|apply qQ);decide +kernel));(conv=>lhs;simp only[go_sem, ibin, ishift])<;>rfl)|((first|apply qR|apply qS);(conv=>lhs;simp only[go_sem])<;>rfl;rfl)|((first|apply qT|apply qU);(conv=>lhs;simp only[go_sem])<;>rfl;rfl)|apply qV|apply qW|apply qX|apply qY|apply qZ)
  refine W2_loopu (fun m u g => ∃ (j : Nat) (O P : List Pn) (D : Bool), j + m = r.opn.length ∧ O = ((r.opn.take j).filter fun p => decide (sends r.pau p)).map (Pn.step r.pau) ∧ P = (r.opn.take j).map (Pn.step r.pau) ∧ D = (r.opn.take j).any (dies r.pau r.tim) ∧ O.length ≤ j ∧ P.length = j ∧ u = [(5, .sl 4 2 0 O.length none), (6, .sl 4 3 0 P.length none), (15, .i .i64 j)] ∧ g = [(0, .obj [.i .i64 r.win, .i .i64 r.pau, .i .i64 r.tim, .i .u16 r.first, .i .i64 r.count, .fz 4 (r.opn.map cPn), .b D]), (2, .arr 4 (O.map cPn)), (3, .arr 4 (P.map cPn))]) r.opn.length ⟨0, [], [], false, by omega, rfl, rfl, rfl, Nat.le_refl _, rfl, rfl, rfl⟩ rfl rfl ?_
  rintro m u g ⟨j, O, P, D, hj, hO, hP, hD, hOl, hPl, rfl, rfl⟩
  intro e1 h1 he1 hh1; simp only [egd, supE, hgd, supH, Nat.reduceEqDiff, Nat.reduceAdd, if_true, if_false, reduceIte] at he1 hh1; subst he1; subst hh1
  by_cases hjt : j < r.opn.length
  · have hjl : j < r.opn.length := by omega
    have hg := List.getElem?_eq_getElem hjl
    have htk : r.opn.take (j + 1) = r.opn.take j ++ [r.opn[j]] := by rw [List.take_add_one, List.getElem?_eq_getElem hjl]; rfl
    have hmem := List.getElem_mem hjl
    generalize r.opn[j] = x at hg htk hmem
    have hx := ha x (List.mem_of_getElem? hg)
    have h0 : (0 : Int) ≤ (j : Int) := by omega
    have h1 : (j : Int) < (r.opn.length : Int) := by omega
    have zj : decide (j < r.opn.length) = true := decide_eq_true hjl
    have zji : decide ((j : Int) < (r.opn.length : Int)) = true := decide_eq_true h1
    have wj := wS (show j < 9223372036854775807 by omega)
    have hroomO : (O.length + 1) * 40 ≤ room := by simp only [room]; omega
    have hroomP : (P.length + 1) * 40 ≤ room := by simp only [room]; omega
    have hOt : O.take O.length = O := List.take_length
    have hPt : P.take P.length = P := List.take_length
    have ws1 : IntKind.i64.wrap (x.since + 1) = x.since + 1 := wi _ (by omega) (by omega)
    have ws2 : IntKind.i64.wrap (x.sent + 1) = x.sent + 1 := wi _ (by omega) (by omega)
    have hdx : dies r.pau r.tim x = decide (sends r.pau x ∧ x.sent ≥ r.tim) := rfl
    (repeat' with_reducible first |apply qA|apply qB|apply qC|apply qD|apply qE|apply qF|(apply qG;decide)|apply qH|apply qI|apply qJ|apply qK|((first|apply qL|apply qM|apply qN|apply qO|((first|apply qP|apply qQ);decide +kernel));(conv=>lhs;simp only[go_sem, ibin, ishift, zj, zji, hg, hjl, h0, h1, cPn, ws1, ws2])<;>rfl)|((first|apply qR|apply qS);(conv=>lhs;simp only[go_sem])<;>rfl;rfl)|((first|apply qT|apply qU);(conv=>lhs;simp only[go_sem])<;>rfl;rfl)|apply qV|apply qW|apply qX|apply qY|apply qZ)
    (((first | with_reducible apply W2_sc | with_reducible apply W2_cond); ((conv => lhs; simp only [go_sem]) <;> with_reducible rfl)) <;> intro hx <;> (try rw [hx]) <;> simp only [Bool.or_eq_true, Bool.and_eq_true, decide_eq_true_eq, Bool.or_eq_false_iff, Bool.and_eq_false_iff, decide_eq_false_iff_not, Bool.not_eq_true', Bool.not_eq_false', bne_iff_ne, beq_iff_eq, not_or, not_and, Decidable.not_not, ne_eq, gt_iff_lt, ge_iff_le, Int.not_lt, Int.not_le] at hx)
    · have hs : sends r.pau x := hx
      have hy : x.step r.pau = ⟨x.n, x.data, x.sent + 1, 0⟩ := if_pos hs
      (repeat' with_reducible first |apply qA|apply qB|apply qC|apply qD|apply qE|apply qF|(apply qG;decide)|apply qH|apply qI|apply qJ|apply qK|((first|apply qL|apply qM|apply qN|apply qO|((first|apply qP|apply qQ);decide +kernel));(conv=>lhs;simp only[go_sem, ibin, ishift, ws2])<;>rfl)|((first|apply qR|apply qS);(conv=>lhs;simp only[go_sem])<;>rfl;rfl)|((first|apply qT|apply qU);(conv=>lhs;simp only[go_sem])<;>rfl;rfl)|apply qV|apply qW|apply qX|apply qY|apply qZ)
      (((first | with_reducible apply W2_sc | with_reducible apply W2_cond); ((conv => lhs; simp only [go_sem]) <;> with_reducible rfl)) <;> intro hx <;> (try rw [hx]) <;> simp only [Bool.or_eq_true, Bool.and_eq_true, decide_eq_true_eq, Bool.or_eq_false_iff, Bool.and_eq_false_iff, decide_eq_false_iff_not, Bool.not_eq_true', Bool.not_eq_false', bne_iff_ne, beq_iff_eq, not_or, not_and, Decidable.not_not, ne_eq, gt_iff_lt, ge_iff_le, Int.not_lt, Int.not_le] at hx)
      · have hdt : dies r.pau r.tim x = true := decide_eq_true ⟨hs, hx⟩
        (repeat' with_reducible first |apply qA|apply qB|apply qC|apply qD|apply qE|apply qF|(apply qG;decide)|apply qH|apply qI|apply qJ|apply qK|((first|apply qL|apply qM|apply qN|apply qO|((first|apply qP|apply qQ);decide +kernel));(conv=>lhs;simp only[go_sem, ibin, ishift, ws2, wj, hroomO, hroomP, hOt, hPt, Nat.le_refl])<;>rfl)|((first|apply qR|apply qS);(conv=>lhs;simp only[go_sem])<;>rfl;rfl)|((first|apply qT|apply qU);(conv=>lhs;simp only[go_sem])<;>rfl;rfl)|apply qV|apply qW|apply qX|apply qY|apply qZ)
        refine ⟨[0, 1, 6, 8], by decide, rfl, ?_⟩
        rw [show O.map cPn ++ [[PV.i .i64 x.n, PV.s x.data, PV.i .i64 (x.sent + 1), PV.i .i64 0]] = (O ++ [Pn.mk x.n x.data (x.sent + 1) 0]).map cPn by rw [List.map_append]; rfl, show P.map cPn ++ [[PV.i .i64 x.n, PV.s x.data, PV.i .i64 (x.sent + 1), PV.i .i64 0]] = (P ++ [Pn.mk x.n x.data (x.sent + 1) 0]).map cPn by rw [List.map_append]; rfl, show O.length + 1 = (O ++ [Pn.mk x.n x.data (x.sent + 1) 0]).length by simp, show P.length + 1 = (P ++ [Pn.mk x.n x.data (x.sent + 1) 0]).length by simp]
        exact ⟨r.opn.length - (j + 1), _, _, by omega, ⟨j + 1, O ++ [Pn.mk x.n x.data (x.sent + 1) 0], P ++ [Pn.mk x.n x.data (x.sent + 1) 0], true, by omega, by rw [hO, htk, List.filter_append, List.filter_cons_of_pos (p := fun p => decide (sends r.pau p)) (decide_eq_true hs), List.map_append, ← hy]; rfl, by rw [hP, htk, List.map_append, ← hy]; rfl, by rw [htk, List.any_append, ← hD]; simp [hdt], by simp; omega, by simp; omega, rfl, rfl⟩, rfl, (by first | rfl | ((conv => lhs; simp only [go_sem, ibin, ishift]) <;> rfl))⟩
      · have hdt : dies r.pau r.tim x = false := decide_eq_false fun h => by have := h.2; omega
        (repeat' with_reducible first |apply qA|apply qB|apply qC|apply qD|apply qE|apply qF|(apply qG;decide)|apply qH|apply qI|apply qJ|apply qK|((first|apply qL|apply qM|apply qN|apply qO|((first|apply qP|apply qQ);decide +kernel));(conv=>lhs;simp only[go_sem, ibin, ishift, ws2, wj, hroomO, hroomP, hOt, hPt, Nat.le_refl])<;>rfl)|((first|apply qR|apply qS);(conv=>lhs;simp only[go_sem])<;>rfl;rfl)|((first|apply qT|apply qU);(conv=>lhs;simp only[go_sem])<;>rfl;rfl)|apply qV|apply qW|apply qX|apply qY|apply qZ)
        refine ⟨[0, 1, 6, 8], by decide, rfl, ?_⟩
        rw [show O.map cPn ++ [[PV.i .i64 x.n, PV.s x.data, PV.i .i64 (x.sent + 1), PV.i .i64 0]] = (O ++ [Pn.mk x.n x.data (x.sent + 1) 0]).map cPn by rw [List.map_append]; rfl, show P.map cPn ++ [[PV.i .i64 x.n, PV.s x.data, PV.i .i64 (x.sent + 1), PV.i .i64 0]] = (P ++ [Pn.mk x.n x.data (x.sent + 1) 0]).map cPn by rw [List.map_append]; rfl, show O.length + 1 = (O ++ [Pn.mk x.n x.data (x.sent + 1) 0]).length by simp, show P.length + 1 = (P ++ [Pn.mk x.n x.data (x.sent + 1) 0]).length by simp]
        exact ⟨r.opn.length - (j + 1), _, _, by omega, ⟨j + 1, O ++ [Pn.mk x.n x.data (x.sent + 1) 0], P ++ [Pn.mk x.n x.data (x.sent + 1) 0], D, by omega, by rw [hO, htk, List.filter_append, List.filter_cons_of_pos (p := fun p => decide (sends r.pau p)) (decide_eq_true hs), List.map_append, ← hy]; rfl, by rw [hP, htk, List.map_append, ← hy]; rfl, by rw [htk, List.any_append, ← hD]; simp [hdt], by simp; omega, by simp; omega, rfl, rfl⟩, rfl, (by first | rfl | ((conv => lhs; simp only [go_sem, ibin, ishift]) <;> rfl))⟩
    · have hs : ¬sends r.pau x := fun h => by rcases h with h | h <;> omega
      have hy : x.step r.pau = ⟨x.n, x.data, x.sent, x.since + 1⟩ := if_neg hs
      have hdt : dies r.pau r.tim x = false := decide_eq_false fun h => hs h.1
      (repeat' with_reducible first |apply qA|apply qB|apply qC|apply qD|apply qE|apply qF|(apply qG;decide)|apply qH|apply qI|apply qJ|apply qK|((first|apply qL|apply qM|apply qN|apply qO|((first|apply qP|apply qQ);decide +kernel));(conv=>lhs;simp only[go_sem, ibin, ishift, wj, hroomP, hPt, Nat.le_refl])<;>rfl)|((first|apply qR|apply qS);(conv=>lhs;simp only[go_sem])<;>rfl;rfl)|((first|apply qT|apply qU);(conv=>lhs;simp only[go_sem])<;>rfl;rfl)|apply qV|apply qW|apply qX|apply qY|apply qZ)
      refine ⟨[0, 1, 2, 6], by decide, rfl, ?_⟩
      rw [show P.map cPn ++ [[PV.i .i64 x.n, PV.s x.data, PV.i .i64 x.sent, PV.i .i64 (x.since + 1)]] = (P ++ [Pn.mk x.n x.data x.sent (x.since + 1)]).map cPn by rw [List.map_append]; rfl, show P.length + 1 = (P ++ [Pn.mk x.n x.data x.sent (x.since + 1)]).length by simp]
      exact ⟨r.opn.length - (j + 1), _, _, by omega, ⟨j + 1, O, P ++ [Pn.mk x.n x.data x.sent (x.since + 1)], D, by omega, by rw [hO, htk, List.filter_append, List.filter_cons_of_neg (p := fun p => decide (sends r.pau p)) (by simpa using hs)]; simp, by rw [hP, htk, List.map_append, ← hy]; rfl, by rw [htk, List.any_append, ← hD]; simp [hdt], by omega, by simp; omega, rfl, rfl⟩, rfl, (by first | rfl | ((conv => lhs; simp only [go_sem, ibin, ishift]) <;> rfl))⟩
  have hje : j = r.opn.length := by omega
  have zj : decide (j < r.opn.length) = false := decide_eq_false hjt
  have zji : decide ((j : Int) < (r.opn.length : Int)) = false := decide_eq_false (by omega)
  rw [hje, List.take_length] at hO hP hD
  subst hO
  subst hP
  rw [← hD]
  cases D with
  | true =>
    rw [if_pos rfl]
    ((repeat' with_reducible first |apply qA|apply qB|apply qC|apply qD|apply qE|apply qF|(apply qG;decide)|apply qH|apply qI|apply qJ|apply qK|apply qX|((first|apply qR|apply qS);(conv=>lhs;simp only[go_sem])<;>rfl;rfl)|((first|apply qT|apply qU);(conv=>lhs;simp only[go_sem])<;>rfl;rfl)|apply qZ|apply qY|apply qW);with_reducible((first|apply qL|apply qM|apply qN|apply qO|((first|apply qP|apply qQ);decide +kernel));(conv=>lhs;simp only[go_sem, ibin, ishift, zj, zji])<;>rfl))
    ((repeat' with_reducible first |apply qA|apply qB|apply qC|apply qD|apply qE|apply qF|(apply qG;decide)|apply qH|apply qI|apply qJ|apply qK|apply qX|((first|apply qR|apply qS);(conv=>lhs;simp only[go_sem])<;>rfl;rfl)|((first|apply qT|apply qU);(conv=>lhs;simp only[go_sem])<;>rfl;rfl)|apply qZ|apply qY|apply qW);with_reducible((first|apply qL|apply qM|apply qN|apply qO|((first|apply qP|apply qQ);decide +kernel));(conv=>lhs;simp only[go_sem, ibin, ishift])<;>rfl))
    ((repeat' with_reducible first |apply qA|apply qB|apply qC|apply qD|apply qE|apply qF|(apply qG;decide)|apply qH|apply qI|apply qJ|apply qK|apply qX|((first|apply qR|apply qS);(conv=>lhs;simp only[go_sem])<;>rfl;rfl)|((first|apply qT|apply qU);(conv=>lhs;simp only[go_sem])<;>rfl;rfl)|apply qZ|apply qY|apply qW);with_reducible((first|apply qL|apply qM|apply qN|apply qO|((first|apply qP|apply qQ);decide +kernel));(conv=>lhs;simp only[go_sem, ibin, ishift])<;>rfl))
    refine W2.weak (Wk.nilf 3 4 rfl) ?_
    (repeat' with_reducible first |apply qA|apply qB|apply qC|apply qD|apply qE|apply qF|(apply qG;decide)|apply qH|apply qI|apply qJ|apply qK|((first|apply qL|apply qM|apply qN|apply qO|((first|apply qP|apply qQ);decide +kernel));(conv=>lhs;simp only[go_sem, ibin, ishift])<;>rfl)|((first|apply qR|apply qS);(conv=>lhs;simp only[go_sem])<;>rfl;rfl)|((first|apply qT|apply qU);(conv=>lhs;simp only[go_sem])<;>rfl;rfl)|apply qV|apply qW|apply qX|apply qY|apply qZ)
    refine ⟨by first | exact .inr rfl | exact .inl rfl, _, _, (by (conv => lhs; simp only [go_sem, ibin, ishift]) <;> with_reducible rfl), (by (conv => lhs; simp only [go_sem, ibin, ishift]) <;> with_reducible rfl), ?_⟩
    refine ⟨[], by decide, rfl, ?_⟩
    exact ⟨rfl, rfl⟩
  | false =>
    rw [if_neg (by decide)]
    refine W2.wfrz 2 rfl (by (conv => lhs; simp only [go_sem, ibin, ishift]) <;> with_reducible rfl) (by (conv => lhs; simp only [go_sem, ibin, ishift]) <;> with_reducible rfl) ?_
    refine W2.wfrz 3 rfl (by (conv => lhs; simp only [go_sem, ibin, ishift]) <;> with_reducible rfl) (by (conv => lhs; simp only [go_sem, ibin, ishift]) <;> with_reducible rfl) ?_
    (repeat' with_reducible first |apply qA|apply qB|apply qC|apply qD|apply qE|apply qF|(apply qG;decide)|apply qH|apply qI|apply qJ|apply qK|((first|apply qL|apply qM|apply qN|apply qO|((first|apply qP|apply qQ);decide +kernel));(conv=>lhs;simp only[go_sem, ibin, ishift, zj, zji])<;>rfl)|((first|apply qR|apply qS);(conv=>lhs;simp only[go_sem])<;>rfl;rfl)|((first|apply qT|apply qU);(conv=>lhs;simp only[go_sem])<;>rfl;rfl)|apply qV|apply qW|apply qX|apply qY|apply qZ)
    refine ⟨by first | exact .inr rfl | exact .inl rfl, _, _, (by (conv => lhs; simp only [go_sem, ibin, ishift]) <;> with_reducible rfl), (by (conv => lhs; simp only [go_sem, ibin, ishift]) <;> with_reducible rfl), ?_⟩
    refine ⟨[], by decide, rfl, ?_⟩
    exact ⟨rfl, rfl⟩
end Go.Proofs.Ytadbipeachcekaa.Ab
