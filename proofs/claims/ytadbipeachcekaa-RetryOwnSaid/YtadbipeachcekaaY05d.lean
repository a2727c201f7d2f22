/- Chapter 05: the sender: all ahead of a number is acknowledged. -/
import Derived.Test.YtadbipeachcekaaY05c
namespace Go.Proofs.Ytadbipeachcekaa.Ab
open Go
set_option linter.unusedVariables false
set_option linter.unusedSimpArgs false
variable {T : AT}
def keepP (f : Pc → Bool) (l : List Pc) : List Pc := l.filter fun x => !f x
theorem keepP_all {f : Pc → Bool} {l : List Pc} (h : ∀ x ∈ l, f x = false) : keepP f l = l := List.filter_eq_self.2 fun x hx => by rw [h x hx]; rfl
theorem keepP_none {f : Pc → Bool} {l : List Pc} (h : ∀ x ∈ l, f x = false) : keepP f l = l := keepP_all h
theorem deleteF_spec (c : TabS T) {g : Nat} {f : Pc → Bool} {q : Int} (hL : Look T g f q) (l : List Pc) (hl : l.length ≤ 1000000) : Ret2 T 2 i_slices_DeleteFunc_retry_piece_retry_piece [.sl 4 0 0 l.length none, .fn g [] [.ptr 1 0]] [some (.arr 4 (l.map cPc)), bx q] (fun v h' => ∃ (Z : List (List PV)) (cap : Option Nat), v = .sl 4 0 0 (keepP f l).length cap ∧ h' = [some (.arr 4 ((keepP f l).map cPc ++ Z)), bx q]) := by
  refine Ret2_fnv c.deleteF rfl rfl ?_
  have his := index_spec c hL l hl
  have hcs := ixP_cases f l 0
  generalize ixP f l 0 = ix at his hcs
  unfold bx at his ⊢
  (repeat' with_reducible first |apply qA|apply qB|apply qC|apply qD|apply qE|apply qF|(apply qG;decide)|apply qH|apply qI|apply qJ|apply qK|((first|apply qL|apply qM|apply qN|apply qO|((first|apply qP|apply qQ);decide +kernel));(conv=>lhs;simp only[go_sem, ibin, ishift])<;>rfl)|((first|apply qR|apply qS);(conv=>lhs;simp only[go_sem])<;>rfl;rfl)|((first|apply qT|apply qU);(conv=>lhs;simp only[go_sem])<;>rfl;rfl)|apply qV|apply qW|apply qX|apply qY|apply qZ)
  (with_reducible((first|apply pA|apply pB|apply pC|apply pD|apply pE|((first|apply pF|apply pG);decide +kernel));(conv=>lhs;simp only[go_sem, ibin, ishift])<;>rfl))
  refine CK_call [0, 1] his (by decide) (by simp) rfl rfl rfl ?_
  rintro v h' ⟨rfl, rfl⟩
  rcases hcs with ⟨rfl, hall⟩ | ⟨i0, hi, hil, ⟨x0, hx0, hf0⟩, hno⟩
  · (with_reducible((first|apply WO2_finw|apply WO2_fina);(conv=>lhs;simp only[go_sem, ibin, ishift])<;>rfl))
    (repeat' with_reducible first |apply qA|apply qB|apply qC|apply qD|apply qE|apply qF|(apply qG;decide)|apply qH|apply qI|apply qJ|apply qK|((first|apply qL|apply qM|apply qN|apply qO|((first|apply qP|apply qQ);decide +kernel));(conv=>lhs;simp only[go_sem, ibin, ishift])<;>rfl)|((first|apply qR|apply qS);(conv=>lhs;simp only[go_sem])<;>rfl;rfl)|((first|apply qT|apply qU);(conv=>lhs;simp only[go_sem])<;>rfl;rfl)|apply qV|apply qW|apply qX|apply qY|apply qZ)
    refine ⟨by first | exact .inr rfl | exact .inl rfl, _, _, (by (conv => lhs; simp only [go_sem, ibin, ishift]) <;> with_reducible rfl), (by (conv => lhs; simp only [go_sem, ibin, ishift]) <;> with_reducible rfl), ?_⟩
    refine ⟨[0, 1], by decide, rfl, ?_⟩
    rw [keepP_all hall]
    exact ⟨[], none, rfl, by rw [List.append_nil]; rfl⟩
  have hi2 : ix = (i0 : Int) := by rw [hi]; simp
  subst hi2
  clear hi
  have z0 : decide ((i0 : Int) = -1) = false := decide_eq_false (by omega)
  have wi1 := wS (show i0 < 9223372036854775807 by omega)
  have ht0 : l.take (i0 + 1) = l.take i0 ++ [x0] := by rw [List.take_add_one, hx0]; rfl
  have hk0 : l.take i0 = keepP f (l.take (i0 + 1)) := by
    rw [ht0, keepP, List.filter_append, ← keepP, keepP_all hno]
    simp [hf0]
  (with_reducible((first|apply WO2_finw|apply WO2_fina);(conv=>lhs;simp only[go_sem, ibin, ishift])<;>rfl))
  (repeat' with_reducible first |apply qA|apply qB|apply qC|apply qD|apply qE|apply qF|(apply qG;decide)|apply qH|apply qI|apply qJ|apply qK|((first|apply qL|apply qM|apply qN|apply qO|((first|apply qP|apply qQ);decide +kernel));(conv=>lhs;simp only[go_sem, ibin, ishift, z0, wi1])<;>rfl)|((first|apply qR|apply qS);(conv=>lhs;simp only[go_sem])<;>rfl;rfl)|((first|apply qT|apply qU);(conv=>lhs;simp only[go_sem])<;>rfl;rfl)|apply qV|apply qW|apply qX|apply qY|apply qZ)
  refine W2_loopu (fun m u g => ∃ (j i : Nat) (E : List Pc), j + m = l.length ∧ i < j ∧ E.length = l.length ∧ E.take i = keepP f (l.take j) ∧ E.drop j = l.drop j ∧ u = [(5, .i .i64 i), (6, .i .i64 j)] ∧ g = [(0, .arr 4 (E.map cPc))]) (l.length - (i0 + 1)) ⟨i0 + 1, i0, l, by omega, by omega, rfl, hk0, rfl, rfl, rfl⟩ rfl rfl ?_
  rintro m u g ⟨j, i, E, hj, hij, hEl, hEt, hEd, rfl, rfl⟩
  intro e1 h1 he1 hh1; simp only [egd, supE, hgd, supH, Nat.reduceEqDiff, Nat.reduceAdd, if_true, if_false, reduceIte] at he1 hh1; subst he1; subst hh1
  by_cases hjl : j < l.length
  · have zj : decide (j < l.length) = true := decide_eq_true hjl
    have zji : decide ((j : Int) < (l.length : Int)) = true := decide_eq_true (by omega)
    have hjE : j < E.length := by omega
    have hiE : i < E.length := by omega
    have hgE := List.getElem?_eq_getElem hjE
    have hgl : l[j]? = E[j]? := by
      have h1 : (E.drop j)[0]? = (l.drop j)[0]? := by rw [hEd]
      simpa using h1.symm
    generalize E[j] = x at hgE
    rw [hgE] at hgl
    have htk : l.take (j + 1) = l.take j ++ [x] := by rw [List.take_add_one, hgl]; rfl
    have j0 : (0 : Int) ≤ (j : Int) := by omega
    have j1 : (j : Int) < (l.length : Int) := by omega
    have i0' : (0 : Int) ≤ (i : Int) := by omega
    have i1 : (i : Int) < (l.length : Int) := by omega
    have hil2 : i < l.length := by omega
    have wj := wS (show j < 9223372036854775807 by omega)
    have wi2 := wS (show i < 9223372036854775807 by omega)
    (repeat' with_reducible first |apply qA|apply qB|apply qC|apply qD|apply qE|apply qF|(apply qG;decide)|apply qH|apply qI|apply qJ|apply qK|((first|apply qL|apply qM|apply qN|apply qO|((first|apply qP|apply qQ);decide +kernel));(conv=>lhs;simp only[go_sem, ibin, ishift, zj, zji, j0, j1, hjE, hgE, hEl, hjl, cPc])<;>rfl)|((first|apply qR|apply qS);(conv=>lhs;simp only[go_sem])<;>rfl;rfl)|((first|apply qT|apply qU);(conv=>lhs;simp only[go_sem])<;>rfl;rfl)|apply qV|apply qW|apply qX|apply qY|apply qZ)
    (with_reducible((first|apply pA|apply pB|apply pC|apply pD|apply pE|((first|apply pF|apply pG);decide +kernel));(conv=>lhs;simp only[go_sem, ibin, ishift])<;>rfl))
    refine CK_call [1] (hL x) (by decide) (by simp) rfl (by first | rfl | (simp only [go_sem, Pc.v]; done) | (simp only [go_sem, Pc.v] <;> rfl)) (by first | rfl | (simp only [go_sem, bx]; done) | (simp only [go_sem, bx] <;> rfl)) ?_
    rintro v h' ⟨rfl, rfl⟩
    unfold bx
    have hEd2 : E.drop (j + 1) = l.drop (j + 1) := by
      have := congrArg (List.drop 1) hEd
      rwa [List.drop_drop, List.drop_drop] at this
    cases hf : f x with
    | true =>
      (with_reducible((first|apply WO2_finw|apply WO2_fina);(conv=>lhs;simp only[go_sem, ibin, ishift])<;>rfl))
      (repeat' with_reducible first |apply qA|apply qB|apply qC|apply qD|apply qE|apply qF|(apply qG;decide)|apply qH|apply qI|apply qJ|apply qK|((first|apply qL|apply qM|apply qN|apply qO|((first|apply qP|apply qQ);decide +kernel));(conv=>lhs;simp only[go_sem, ibin, ishift, wj])<;>rfl)|((first|apply qR|apply qS);(conv=>lhs;simp only[go_sem])<;>rfl;rfl)|((first|apply qT|apply qU);(conv=>lhs;simp only[go_sem])<;>rfl;rfl)|apply qV|apply qW|apply qX|apply qY|apply qZ)
      refine ⟨[0, 1], by decide, rfl, ?_⟩
      exact ⟨l.length - (j + 1), _, _, by omega, ⟨j + 1, i, E, by omega, by omega, hEl, by rw [hEt, htk, keepP, keepP, List.filter_append]; simp [hf], hEd2, rfl, rfl⟩, rfl, (by first | rfl | ((conv => lhs; simp only [go_sem, ibin, ishift]) <;> rfl))⟩
    | false =>
      (with_reducible((first|apply WO2_finw|apply WO2_fina);(conv=>lhs;simp only[go_sem, ibin, ishift])<;>rfl))
      have hgi := List.getElem?_eq_getElem hiE
      generalize E[i] = y0 at hgi
      (repeat' with_reducible first |apply qA|apply qB|apply qC|apply qD|apply qE|apply qF|(apply qG;decide)|apply qH|apply qI|apply qJ|apply qK|((first|apply qL|apply qM|apply qN|apply qO|((first|apply qP|apply qQ);decide +kernel));(conv=>lhs;simp only[go_sem, ibin, ishift, i0', i1, hiE, hil2, hEl, hgi, cPc, wi2, wj])<;>rfl)|((first|apply qR|apply qS);(conv=>lhs;simp only[go_sem])<;>rfl;rfl)|((first|apply qT|apply qU);(conv=>lhs;simp only[go_sem])<;>rfl;rfl)|apply qV|apply qW|apply qX|apply qY|apply qZ)
      rw [show (E.map cPc).set i [.i .u16 x.seq, .fz 1 (x.data.map c8), .i .i64 x.sent, .i .i64 x.since] = (E.set i x).map cPc by rw [List.map_set]; rfl]
      refine ⟨[0, 1], by decide, rfl, ?_⟩
      exact ⟨l.length - (j + 1), _, _, by omega, ⟨j + 1, i + 1, E.set i x, by omega, by omega, by rw [List.length_set]; exact hEl, by
        rw [htk, keepP, List.filter_append, ← keepP, ← hEt, List.take_add_one, List.getElem?_set_self hiE, List.take_set_of_le (Nat.le_refl _)]
        simp [hf], by rw [List.drop_set_of_lt (by omega)]; exact hEd2, rfl, rfl⟩, rfl, (by first | rfl | ((conv => lhs; simp only [go_sem, ibin, ishift]) <;> rfl))⟩
  have hje : j = l.length := by omega
  have zj : decide (j < l.length) = false := decide_eq_false hjl
  have zji : decide ((j : Int) < (l.length : Int)) = false := decide_eq_false (by omega)
  rw [hje, List.take_length] at hEt
  have hKl : (keepP f l).length = i := by rw [← hEt, List.length_take]; omega
  have c1 : (0 : Int) ≤ (i : Int) := by omega
  have c2 : (i : Int) ≤ (l.length : Int) := by omega
  have c3 : i ≤ l.length := by omega
  have c4 : i + (l.length - i) ≤ l.length := by omega
  (repeat' with_reducible first |apply qA|apply qB|apply qC|apply qD|apply qE|apply qF|(apply qG;decide)|apply qH|apply qI|apply qJ|apply qK|((first|apply qL|apply qM|apply qN|apply qO|((first|apply qP|apply qQ);decide +kernel));(conv=>lhs;simp only[go_sem, ibin, ishift, zj, zji, c1, c2, c3, c4, hEl, hEt, Int.le_refl, Nat.le_refl])<;>rfl)|((first|apply qR|apply qS);(conv=>lhs;simp only[go_sem])<;>rfl;rfl)|((first|apply qT|apply qU);(conv=>lhs;simp only[go_sem])<;>rfl;rfl)|apply qV|apply qW|apply qX|apply qY|apply qZ)
  refine ⟨by first | exact .inr rfl | exact .inl rfl, _, _, (by (conv => lhs; simp only [go_sem, ibin, ishift]) <;> with_reducible rfl), (by (conv => lhs; simp only [go_sem, ibin, ishift]) <;> with_reducible rfl), ?_⟩
  refine ⟨[0, 1], by decide, rfl, ?_⟩
  rw [hKl]
  refine ⟨List.replicate (l.length - i) [PV.i IntKind.u16 0, PV.nils, PV.i IntKind.i64 0, PV.i IntKind.i64 0] ++ List.map cPc (List.drop (i + (l.length - i)) E), some l.length, rfl, ?_⟩
  rw [← List.append_assoc]
  rfl
end Go.Proofs.Ytadbipeachcekaa.Ab
