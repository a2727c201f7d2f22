/- Chapter 05: the sender: a tick. -/
import Derived.Test.YtadbipeachcekaaY05a
namespace Go.Proofs.Ytadbipeachcekaa.Ab
open Go
set_option linter.unusedVariables false
set_option linter.unusedSimpArgs false
variable {T : AT}
structure Ou where
  seq : Int
  data : List UInt8
def cOu (o : Ou) : List PV := [.i .u16 o.seq, .fz 1 (o.data.map c8)]
def Pc.age (p : Pc) : Pc := ⟨p.seq, p.data, p.sent, IntKind.i64.wrap (p.since + 1)⟩
def Pc.go (p : Pc) : Pc := ⟨p.seq, p.data, IntKind.i64.wrap (p.sent + 1), 0⟩
def Pc.out (p : Pc) : Ou := ⟨p.seq, p.data⟩
def waits (pau : Int) (p : Pc) : Prop := 0 < p.sent ∧ IntKind.i64.wrap (p.since + 1) < pau
instance (pau : Int) (p : Pc) : Decidable (waits pau p) := by unfold waits; exact inferInstance
def tk (pau tim : Int) : List Pc → List Pc × List Ou × Bool
  | [] => ([], [], false)
  | p :: r => if waits pau p then (p.age :: (tk pau tim r).1, (tk pau tim r).2.1, (tk pau tim r).2.2) else if p.sent = tim then (p.age :: r, [], true) else (p.go :: (tk pau tim r).1, p.out :: (tk pau tim r).2.1, (tk pau tim r).2.2)
def Sn.tick (s : Sn) : Sn × List Ou × Int :=
  if s.dead = true then (s, [], 190) else if (tk s.pau s.tim s.opn).2.2 = true then (⟨s.win, s.pau, s.tim, s.next, (tk s.pau s.tim s.opn).1, true⟩, [], 190) else (⟨s.win, s.pau, s.tim, s.next, (tk s.pau s.tim s.opn).1, false⟩, (tk s.pau s.tim s.opn).2.1, 0)
theorem tk_len (pau tim : Int) : ∀ l : List Pc, (tk pau tim l).1.length = l.length ∧ (tk pau tim l).2.1.length ≤ l.length
  | [] => ⟨rfl, Nat.le_refl _⟩
  | p :: r => by
    have ih := tk_len pau tim r
    rw [tk]
    split
    · simp only [List.length_cons]; omega
    split
    · simp
    · simp only [List.length_cons]; omega
theorem tick_spec (c : TabS T) (s : Sn) (hl : s.opn.length ≤ 100000) (hd : ∀ p ∈ s.opn, p.data.length ≤ 1000000) : Ret2 T 2 i_retry_Sender_Tick [.ptr 0 0] s.h (fun v h' => (s.tick.2.2 = 0 → v = .tup [.sl 2 2 0 s.tick.2.1.length none, .i .i64 0] ∧ h' = s.tick.1.h ++ [some (.arr 2 (s.tick.2.1.map cOu))]) ∧ (s.tick.2.2 ≠ 0 → v = .tup [.nils, .i .i64 190] ∧ h' = s.tick.1.h)) := by
  refine Ret2_fnv c.tick rfl rfl ?_
  unfold Sn.h Sn.o Sn.tick
  cases hdd : s.dead with
  | true =>
    rw [if_pos rfl]
    (repeat' with_reducible first |apply qA|apply qB|apply qC|apply qD|apply qE|apply qF|(apply qG;decide)|apply qH|apply qI|apply qJ|apply qK|((first|apply qL|apply qM|apply qN|apply qO|((first|apply qP|apply qQ);decide +kernel));(conv=>lhs;simp only[go_sem, ibin, ishift])<;>rfl)|((first|apply qR|apply qS);(conv=>lhs;simp only[go_sem])<;>rfl;rfl)|((first|apply qT|apply qU);(conv=>lhs;simp only[go_sem])<;>rfl;rfl)|apply qV|apply qW|apply qX|apply qY|apply qZ)
    refine ⟨by first | exact .inr rfl | exact .inl rfl, _, _, (by (conv => lhs; simp only [go_sem, ibin, ishift]) <;> with_reducible rfl), (by (conv => lhs; simp only [go_sem, ibin, ishift]) <;> with_reducible rfl), ?_⟩
    refine ⟨[0, 1], by decide, rfl, ?_⟩
    rw [hdd]
    exact ⟨fun h => (by simp at h), fun _ => ⟨rfl, rfl⟩⟩
  | false =>
  simp only [Bool.false_eq_true, if_false]
  ((repeat' with_reducible first |apply qA|apply qB|apply qC|apply qD|apply qE|apply qF|(apply qG;decide)|apply qH|apply qI|apply qJ|apply qK|apply qX|((first|apply qR|apply qS);(conv=>lhs;simp only[go_sem])<;>rfl;rfl)|((first|apply qT|apply qU);(conv=>lhs;simp only[go_sem])<;>rfl;rfl)|apply qZ|apply qY|apply qW);with_reducible((first|apply qL|apply qM|apply qN|apply qO|((first|apply qP|apply qQ);decide +kernel));(conv=>lhs;simp only[go_sem, ibin, ishift])<;>rfl))
  (repeat' with_reducible first |apply qA|apply qB|apply qC|apply qD|apply qE|apply qF|(apply qG;decide)|apply qH|apply qI|apply qJ|apply qK|apply qX|((first|apply qR|apply qS);(conv=>lhs;simp only[go_sem])<;>rfl;rfl)|((first|apply qT|apply qU);(conv=>lhs;simp only[go_sem])<;>rfl;rfl)|apply qZ|apply qY|apply qW)
  ((repeat' with_reducible first |apply qA|apply qB|apply qC|apply qD|apply qE|apply qF|(apply qG;decide)|apply qH|apply qI|apply qJ|apply qK|apply qX|((first|apply qR|apply qS);(conv=>lhs;simp only[go_sem])<;>rfl;rfl)|((first|apply qT|apply qU);(conv=>lhs;simp only[go_sem])<;>rfl;rfl)|apply qZ|apply qY|apply qW);with_reducible((first|apply qL|apply qM|apply qN|apply qO|((first|apply qP|apply qQ);decide +kernel));(conv=>lhs;simp only[go_sem, ibin, ishift])<;>rfl))
  (repeat' with_reducible first |apply qA|apply qB|apply qC|apply qD|apply qE|apply qF|(apply qG;decide)|apply qH|apply qI|apply qJ|apply qK|apply qX|((first|apply qR|apply qS);(conv=>lhs;simp only[go_sem])<;>rfl;rfl)|((first|apply qT|apply qU);(conv=>lhs;simp only[go_sem])<;>rfl;rfl)|apply qZ|apply qY|apply qW)
  ((repeat' with_reducible first |apply qA|apply qB|apply qC|apply qD|apply qE|apply qF|(apply qG;decide)|apply qH|apply qI|apply qJ|apply qK|apply qX|((first|apply qR|apply qS);(conv=>lhs;simp only[go_sem])<;>rfl;rfl)|((first|apply qT|apply qU);(conv=>lhs;simp only[go_sem])<;>rfl;rfl)|apply qZ|apply qY|apply qW);with_reducible((first|apply qL|apply qM|apply qN|apply qO|((first|apply qP|apply qQ);decide +kernel));(conv=>lhs;simp only[go_sem, ibin, ishift])<;>rfl))
  refine W2.wnil 4 2 rfl (by (conv => lhs; simp only [go_sem, ibin, ishift]) <;> with_reducible rfl) (by (conv => lhs; simp only [go_sem, ibin, ishift]) <;> with_reducible rfl) ?_
  (repeat' with_reducible first |apply qA|apply qB|apply qC|apply qD|apply qE|apply qF|(apply qG;decide)|apply qH|apply qI|apply qJ|apply qK|((first|apply qL|apply qM|apply qN|apply qO|((first|apply qP|apply qQ);decide +kernel));(conv=>lhs;simp only[go_sem, ibin, ishift])<;>rfl)|((first|apply qR|apply qS);(conv=>lhs;simp only[go_sem])<;>rfl;rfl)|((first|apply qT|apply qU);(conv=>lhs;simp only[go_sem])<;>rfl;rfl)|apply qV|apply qW|apply qX|apply qY|apply qZ)
  refine W2_loopu (fun m u g => ∃ (j : Nat) (P : List Pc) (O : List Ou), j + m = s.opn.length ∧ P.length = j ∧ O.length ≤ j ∧ tk s.pau s.tim s.opn = (P ++ (tk s.pau s.tim (s.opn.drop j)).1, O ++ (tk s.pau s.tim (s.opn.drop j)).2.1, (tk s.pau s.tim (s.opn.drop j)).2.2) ∧ u = [(4, .sl 2 2 0 O.length none), (16, .i .i64 j)] ∧ g = [(1, .arr 4 ((P ++ s.opn.drop j).map cPc)), (2, .arr 2 (O.map cOu))]) s.opn.length ⟨0, [], [], by omega, rfl, Nat.le_refl _, rfl, rfl, rfl⟩ rfl rfl ?_
  rintro m u g ⟨j, P, O, hj, hPl, hOl, htk, rfl, rfl⟩
  intro e1 h1 he1 hh1; simp only [egd, supE, hgd, supH, Nat.reduceEqDiff, Nat.reduceAdd, if_true, if_false, reduceIte] at he1 hh1; subst he1; subst hh1
  by_cases hjl : j < s.opn.length
  · have zj : decide (j < s.opn.length) = true := decide_eq_true hjl
    have zji : decide ((j : Int) < (s.opn.length : Int)) = true := decide_eq_true (by omega)
    have hdr : s.opn.drop j = s.opn[j] :: s.opn.drop (j + 1) := List.drop_eq_getElem_cons hjl
    have hxm := List.getElem_mem hjl
    generalize s.opn[j] = x at hdr hxm
    have hxd := hd x hxm
    have j0 : (0 : Int) ≤ (j : Int) := by omega
    have j1 : (j : Int) < (s.opn.length : Int) := by omega
    have wj := wS (show j < 9223372036854775807 by omega)
    have hlen : (P ++ s.opn.drop j).length = s.opn.length := by rw [List.length_append, List.length_drop]; omega
    have hset : ∀ y, (P ++ x :: s.opn.drop (j + 1)).set j y = P ++ y :: s.opn.drop (j + 1) := fun y => by
      rw [List.set_append_right _ _ (by omega), hPl]; simp
    have hgx : (P ++ x :: s.opn.drop (j + 1))[j]? = some x := by
      rw [List.getElem?_append_right (by omega), hPl]; simp
    rw [hdr, tk] at htk
    rw [hdr] at hlen ⊢
    generalize hR : s.opn.drop (j + 1) = R at *
    have hjL : j < (P ++ x :: R).length := by omega
    (repeat' with_reducible first |apply qA|apply qB|apply qC|apply qD|apply qE|apply qF|(apply qG;decide)|apply qH|apply qI|apply qJ|apply qK|((first|apply qL|apply qM|apply qN|apply qO|((first|apply qP|apply qQ);decide +kernel));(conv=>lhs;simp only[go_sem, ibin, ishift, zj, zji, j0, j1, hgx, hjL, hlen, cPc])<;>rfl)|((first|apply qR|apply qS);(conv=>lhs;simp only[go_sem])<;>rfl;rfl)|((first|apply qT|apply qU);(conv=>lhs;simp only[go_sem])<;>rfl;rfl)|apply qV|apply qW|apply qX|apply qY|apply qZ)
    have hst : ∀ y : Pc, ((P ++ x :: R).map cPc).set j (cPc y) = (P ++ y :: R).map cPc := fun y => by rw [← List.map_set, hset]
    rw [show ((P ++ x :: R).map cPc).set j [.i .u16 x.seq, .fz 1 (x.data.map c8), .i .i64 x.sent, .i .i64 (IntKind.i64.wrap (x.since + 1))] = (P ++ x.age :: R).map cPc from hst x.age]
    have hgx2 : (P ++ x.age :: R)[j]? = some x.age := by
      rw [List.getElem?_append_right (by omega), hPl]; simp
    have hjL2 : j < (P ++ x.age :: R).length := by simp only [List.length_append, List.length_cons] at hjL ⊢; exact hjL
    have hst2 : ∀ y : Pc, ((P ++ x.age :: R).map cPc).set j (cPc y) = (P ++ y :: R).map cPc := fun y => by
      rw [← List.map_set, List.set_append_right _ _ (by omega), hPl]; simp
    have a1 : x.age.seq = x.seq := rfl
    have a2 : x.age.data = x.data := rfl
    have a3 : x.age.sent = x.sent := rfl
    have a4 : x.age.since = IntKind.i64.wrap (x.since + 1) := rfl
    (repeat' with_reducible first |apply qA|apply qB|apply qC|apply qD|apply qE|apply qF|(apply qG;decide)|apply qH|apply qI|apply qJ|apply qK|((first|apply qL|apply qM|apply qN|apply qO|((first|apply qP|apply qQ);decide +kernel));(conv=>lhs;simp only[go_sem, ibin, ishift, hgx2, hjL2, cPc, a1, a2, a3, a4])<;>rfl)|((first|apply qR|apply qS);(conv=>lhs;simp only[go_sem])<;>rfl;rfl)|((first|apply qT|apply qU);(conv=>lhs;simp only[go_sem])<;>rfl;rfl)|apply qV|apply qW|apply qX|apply qY|apply qZ)
    by_cases hw : waits s.pau x
    · rw [show (decide (x.sent > 0) && decide (IntKind.i64.wrap (x.since + 1) < s.pau)) = true by rw [Bool.and_eq_true]; exact ⟨decide_eq_true hw.1, decide_eq_true hw.2⟩]
      rw [if_pos hw] at htk
      (repeat' with_reducible first |apply qA|apply qB|apply qC|apply qD|apply qE|apply qF|(apply qG;decide)|apply qH|apply qI|apply qJ|apply qK|((first|apply qL|apply qM|apply qN|apply qO|((first|apply qP|apply qQ);decide +kernel));(conv=>lhs;simp only[go_sem, ibin, ishift, wj])<;>rfl)|((first|apply qR|apply qS);(conv=>lhs;simp only[go_sem])<;>rfl;rfl)|((first|apply qT|apply qU);(conv=>lhs;simp only[go_sem])<;>rfl;rfl)|apply qV|apply qW|apply qX|apply qY|apply qZ)
      refine ⟨[0, 1, 2], by decide, rfl, ?_⟩
      rw [show P ++ x.age :: R = (P ++ [x.age]) ++ s.opn.drop (j + 1) by rw [hR]; simp]
      exact ⟨s.opn.length - (j + 1), _, _, by omega, ⟨j + 1, P ++ [x.age], O, by omega, by simp [hPl], by omega, by rw [htk, hR]; simp, rfl, rfl⟩, rfl, (by first | rfl | ((conv => lhs; simp only [go_sem, ibin, ishift]) <;> rfl))⟩
    rw [show (decide (x.sent > 0) && decide (IntKind.i64.wrap (x.since + 1) < s.pau)) = false by rw [← Bool.not_eq_true, Bool.and_eq_true]; intro h; exact hw ⟨of_decide_eq_true h.1, of_decide_eq_true h.2⟩]
    rw [if_neg hw] at htk
    by_cases ht : x.sent = s.tim
    · have zt : decide (x.sent = s.tim) = true := decide_eq_true ht
      rw [if_pos ht] at htk
      (repeat' with_reducible first |apply qA|apply qB|apply qC|apply qD|apply qE|apply qF|(apply qG;decide)|apply qH|apply qI|apply qJ|apply qK|((first|apply qL|apply qM|apply qN|apply qO|((first|apply qP|apply qQ);decide +kernel));(conv=>lhs;simp only[go_sem, ibin, ishift, hgx2, hjL2, cPc, a1, a2, a3, a4, zt])<;>rfl)|((first|apply qR|apply qS);(conv=>lhs;simp only[go_sem])<;>rfl;rfl)|((first|apply qT|apply qU);(conv=>lhs;simp only[go_sem])<;>rfl;rfl)|apply qV|apply qW|apply qX|apply qY|apply qZ)
      refine ⟨by first | exact .inr rfl | exact .inl rfl, _, _, (by (conv => lhs; simp only [go_sem, ibin, ishift]) <;> with_reducible rfl), (by (conv => lhs; simp only [go_sem, ibin, ishift]) <;> with_reducible rfl), ?_⟩
      refine ⟨[0, 1], by decide, rfl, ?_⟩
      rw [htk]
      simp only [if_true]
      refine ⟨fun h => by simp at h, fun _ => ⟨rfl, ?_⟩⟩
      have hfl : (P ++ x.age :: R).length = s.opn.length := by rw [← hlen]; simp
      rw [hfl]
      exact (by first | rfl | ((conv => lhs; simp only [go_sem, ibin, ishift]) <;> rfl))
    have zt : decide (x.sent = s.tim) = false := decide_eq_false ht
    rw [if_neg ht] at htk
    have hstG : ∀ y z : Pc, ((P ++ y :: R).map cPc).set j (cPc z) = (P ++ z :: R).map cPc := fun y z => by
      rw [← List.map_set, List.set_append_right _ _ (by omega), hPl]; simp
    have hgG : ∀ y : Pc, (P ++ y :: R)[j]? = some y := fun y => by
      rw [List.getElem?_append_right (by omega), hPl]; simp
    (repeat' with_reducible first |apply qA|apply qB|apply qC|apply qD|apply qE|apply qF|(apply qG;decide)|apply qH|apply qI|apply qJ|apply qK|((first|apply qL|apply qM|apply qN|apply qO|((first|apply qP|apply qQ);decide +kernel));(conv=>lhs;simp only[go_sem, ibin, ishift, hgx2, hjL2, cPc, a1, a2, a3, a4, zt])<;>rfl)|((first|apply qR|apply qS);(conv=>lhs;simp only[go_sem])<;>rfl;rfl)|((first|apply qT|apply qU);(conv=>lhs;simp only[go_sem])<;>rfl;rfl)|apply qV|apply qW|apply qX|apply qY|apply qZ)
    rw [show ((P ++ x.age :: R).map cPc).set j [.i .u16 x.seq, .fz 1 (x.data.map c8), .i .i64 (IntKind.i64.wrap (x.sent + 1)), .i .i64 (IntKind.i64.wrap (x.since + 1))] = (P ++ (Pc.mk x.seq x.data (IntKind.i64.wrap (x.sent + 1)) (IntKind.i64.wrap (x.since + 1))) :: R).map cPc from hstG x.age ⟨x.seq, x.data, IntKind.i64.wrap (x.sent + 1), IntKind.i64.wrap (x.since + 1)⟩]
    generalize hy : Pc.mk x.seq x.data (IntKind.i64.wrap (x.sent + 1)) (IntKind.i64.wrap (x.since + 1)) = y
    have b1 : y.seq = x.seq := by rw [← hy]
    have b2 : y.data = x.data := by rw [← hy]
    have b3 : y.sent = IntKind.i64.wrap (x.sent + 1) := by rw [← hy]
    have b4 : y.since = IntKind.i64.wrap (x.since + 1) := by rw [← hy]
    have hgy := hgG y
    have hjy : j < (P ++ y :: R).length := by simp only [List.length_append, List.length_cons] at hjL ⊢; exact hjL
    (repeat' with_reducible first |apply qA|apply qB|apply qC|apply qD|apply qE|apply qF|(apply qG;decide)|apply qH|apply qI|apply qJ|apply qK|((first|apply qL|apply qM|apply qN|apply qO|((first|apply qP|apply qQ);decide +kernel));(conv=>lhs;simp only[go_sem, ibin, ishift, hgy, hjy, cPc, b1, b2, b3, b4])<;>rfl)|((first|apply qR|apply qS);(conv=>lhs;simp only[go_sem])<;>rfl;rfl)|((first|apply qT|apply qU);(conv=>lhs;simp only[go_sem])<;>rfl;rfl)|apply qV|apply qW|apply qX|apply qY|apply qZ)
    rw [show ((P ++ y :: R).map cPc).set j [.i .u16 x.seq, .fz 1 (x.data.map c8), .i .i64 (IntKind.i64.wrap (x.sent + 1)), .i .i64 0] = (P ++ x.go :: R).map cPc from hstG y x.go]
    have c1 : x.go.seq = x.seq := rfl
    have c2 : x.go.data = x.data := rfl
    have c3 : x.go.sent = IntKind.i64.wrap (x.sent + 1) := rfl
    have c4 : x.go.since = 0 := rfl
    have hgz := hgG x.go
    have hjz : j < (P ++ x.go :: R).length := by simp only [List.length_append, List.length_cons] at hjL ⊢; exact hjL
    have hroom : (O.length + 1) * 32 ≤ room := by simp only [room]; omega
    have hOt : O.take O.length = O := List.take_length
    (repeat' with_reducible first |apply qA|apply qB|apply qC|apply qD|apply qE|apply qF|(apply qG;decide)|apply qH|apply qI|apply qJ|apply qK|apply qX|((first|apply qR|apply qS);(conv=>lhs;simp only[go_sem])<;>rfl;rfl)|((first|apply qT|apply qU);(conv=>lhs;simp only[go_sem])<;>rfl;rfl)|apply qZ|apply qY|apply qW)
    (with_reducible first | apply W2_sregH [1] [false, false, false, false, true, false, false, false, false, false, false, false] | apply W2_regH [1] [false, false, false, false, true, false, false, false, false, false, false, false])
    · decide
    · decide
    · cases P <;> rfl
    ((conv => lhs; simp only [go_sem, ibin, ishift, hgz, hjz, cPc, c1, c2, c3, c4]) <;> with_reducible rfl)
    refine EH_pure (clone8_spec c x.data hxd) rfl ?_
    rintro v h' ⟨rfl, rfl⟩
    (with_reducible apply WOH_go (by decide); ((conv => lhs; simp only [go_sem, ibin, ishift, hroom, hOt, Nat.le_refl]) <;> with_reducible rfl))
    refine EH_go ?_
    (repeat' with_reducible first |apply qA|apply qB|apply qC|apply qD|apply qE|apply qF|(apply qG;decide)|apply qH|apply qI|apply qJ|apply qK|((first|apply qL|apply qM|apply qN|apply qO|((first|apply qP|apply qQ);decide +kernel));(conv=>lhs;simp only[go_sem, ibin, ishift, wj])<;>rfl)|((first|apply qR|apply qS);(conv=>lhs;simp only[go_sem])<;>rfl;rfl)|((first|apply qT|apply qU);(conv=>lhs;simp only[go_sem])<;>rfl;rfl)|apply qV|apply qW|apply qX|apply qY|apply qZ)
    refine ⟨[0, 1, 4], by decide, rfl, ?_⟩
    rw [show O.map cOu ++ [[PV.i .u16 x.seq, PV.fz 1 (x.data.map c8)]] = (O ++ [x.out]).map cOu by rw [List.map_append]; rfl, show O.length + 1 = (O ++ [x.out]).length by simp, show P ++ x.go :: R = (P ++ [x.go]) ++ s.opn.drop (j + 1) by rw [hR]; simp]
    exact ⟨s.opn.length - (j + 1), _, _, by omega, ⟨j + 1, P ++ [x.go], O ++ [x.out], by omega, by simp [hPl], by simp; omega, by rw [htk, hR]; simp, rfl, rfl⟩, rfl, (by first | rfl | ((conv => lhs; simp only [go_sem, ibin, ishift]) <;> rfl))⟩
  have hje : j = s.opn.length := by omega
  have zj : decide (j < s.opn.length) = false := decide_eq_false hjl
  have zji : decide ((j : Int) < (s.opn.length : Int)) = false := decide_eq_false (by omega)
  rw [hje, List.drop_length] at htk ⊢
  have h1 : (tk s.pau s.tim s.opn).1 = P := by rw [htk]; simp [tk]
  have h2 : (tk s.pau s.tim s.opn).2.1 = O := by rw [htk]; simp [tk]
  have h3 : (tk s.pau s.tim s.opn).2.2 = false := by rw [htk]; rfl
  rw [h1, h2, h3, List.append_nil]
  simp only [Bool.false_eq_true, if_false]
  rw [hje] at zj zji hPl
  (repeat' with_reducible first |apply qA|apply qB|apply qC|apply qD|apply qE|apply qF|(apply qG;decide)|apply qH|apply qI|apply qJ|apply qK|((first|apply qL|apply qM|apply qN|apply qO|((first|apply qP|apply qQ);decide +kernel));(conv=>lhs;simp only[go_sem, ibin, ishift, zj, zji])<;>rfl)|((first|apply qR|apply qS);(conv=>lhs;simp only[go_sem])<;>rfl;rfl)|((first|apply qT|apply qU);(conv=>lhs;simp only[go_sem])<;>rfl;rfl)|apply qV|apply qW|apply qX|apply qY|apply qZ)
  refine ⟨by first | exact .inr rfl | exact .inl rfl, _, _, (by (conv => lhs; simp only [go_sem, ibin, ishift]) <;> with_reducible rfl), (by (conv => lhs; simp only [go_sem, ibin, ishift]) <;> with_reducible rfl), ?_⟩
  refine ⟨[0, 1, 2], by decide, rfl, ?_⟩
  refine ⟨fun _ => ⟨rfl, ?_⟩, fun h => (h rfl).elim⟩
  rw [← hPl]
  exact (by first | rfl | ((conv => lhs; simp only [go_sem, ibin, ishift]) <;> rfl))
end Go.Proofs.Ytadbipeachcekaa.Ab
