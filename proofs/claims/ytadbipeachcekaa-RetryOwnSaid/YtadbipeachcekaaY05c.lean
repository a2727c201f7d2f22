/- Chapter 05: the sender: what is acknowledged. -/
import Derived.Test.YtadbipeachcekaaY05b
namespace Go.Proofs.Ytadbipeachcekaa.Ab
open Go
set_option linter.unusedVariables false
set_option linter.unusedSimpArgs false
variable {T : AT}
def Pc.v (x : Pc) : SV := .agg [.i .u16 x.seq, .fz 1 (x.data.map c8), .i .i64 x.sent, .i .i64 x.since]
def bx (q : Int) : Option B2 := some (.obj [.i .u16 q])
/-- a look at pieces -/
def Look (T : AT) (g : Nat) (f : Pc → Bool) (q : Int) : Prop := ∀ x : Pc, Ret2 T 1 g [x.v, .ptr 0 0] [bx q] (fun v h' => v = .b (f x) ∧ h' = [bx q])
theorem find1_look (c : TabS T) (q : Int) : Look T i_retry_Sender_find_1 (fun x => decide (x.seq = q)) q := fun x => by
  refine Ret2_fnv c.find1 rfl rfl ?_
  unfold Pc.v bx
  (repeat' with_reducible first |apply qA|apply qB|apply qC|apply qD|apply qE|apply qF|(apply qG;decide)|apply qH|apply qI|apply qJ|apply qK|((first|apply qL|apply qM|apply qN|apply qO|((first|apply qP|apply qQ);decide +kernel));(conv=>lhs;simp only[go_sem, ibin, ishift])<;>rfl)|((first|apply qR|apply qS);(conv=>lhs;simp only[go_sem])<;>rfl;rfl)|((first|apply qT|apply qU);(conv=>lhs;simp only[go_sem])<;>rfl;rfl)|apply qV|apply qW|apply qX|apply qY|apply qZ)
  refine ⟨by first | exact .inr rfl | exact .inl rfl, _, _, (by (conv => lhs; simp only [go_sem, ibin, ishift]) <;> with_reducible rfl), (by (conv => lhs; simp only [go_sem, ibin, ishift]) <;> with_reducible rfl), ?_⟩
  refine ⟨[0], by decide, rfl, ?_⟩
  exact ⟨rfl, rfl⟩
theorem ackTo1_look (c : TabS T) (q : Int) : Look T i_retry_Sender_AckTo_1 (fun x => decide (dist x.seq q > 0)) q := fun x => by
  refine Ret2_fnv c.ackTo1 rfl rfl ?_
  unfold Pc.v bx
  (repeat' with_reducible first |apply qA|apply qB|apply qC|apply qD|apply qE|apply qF|(apply qG;decide)|apply qH|apply qI|apply qJ|apply qK|((first|apply qL|apply qM|apply qN|apply qO|((first|apply qP|apply qQ);decide +kernel));(conv=>lhs;simp only[go_sem, ibin, ishift])<;>rfl)|((first|apply qR|apply qS);(conv=>lhs;simp only[go_sem])<;>rfl;rfl)|((first|apply qT|apply qU);(conv=>lhs;simp only[go_sem])<;>rfl;rfl)|apply qV|apply qW|apply qX|apply qY|apply qZ)
  (with_reducible((first|apply pA|apply pB|apply pC|apply pD|apply pE|((first|apply pF|apply pG);decide +kernel));(conv=>lhs;simp only[go_sem, ibin, ishift])<;>rfl))
  refine CK_pure (behind_spec c x.seq q) rfl ?_
  rintro v h' ⟨rfl, rfl⟩
  (with_reducible((first|apply WO2_finw|apply WO2_fina);(conv=>lhs;simp only[go_sem, ibin, ishift])<;>rfl))
  (repeat' with_reducible first |apply qA|apply qB|apply qC|apply qD|apply qE|apply qF|(apply qG;decide)|apply qH|apply qI|apply qJ|apply qK|((first|apply qL|apply qM|apply qN|apply qO|((first|apply qP|apply qQ);decide +kernel));(conv=>lhs;simp only[go_sem, ibin, ishift])<;>rfl)|((first|apply qR|apply qS);(conv=>lhs;simp only[go_sem])<;>rfl;rfl)|((first|apply qT|apply qU);(conv=>lhs;simp only[go_sem])<;>rfl;rfl)|apply qV|apply qW|apply qX|apply qY|apply qZ)
  refine ⟨by first | exact .inr rfl | exact .inl rfl, _, _, (by (conv => lhs; simp only [go_sem, ibin, ishift]) <;> with_reducible rfl), (by (conv => lhs; simp only [go_sem, ibin, ishift]) <;> with_reducible rfl), ?_⟩
  refine ⟨[0], by decide, rfl, ?_⟩
  exact ⟨rfl, rfl⟩
/-- the first place of a piece that is wanted -/
def ixP (f : Pc → Bool) : List Pc → Nat → Int
  | [], _ => -1
  | x :: r, j => if f x = true then j else ixP f r (j + 1)
theorem ixP_take {f : Pc → Bool} : ∀ {l : List Pc} {i j : Nat}, (∀ x ∈ l.take i, f x = false) → ixP f l j = ixP f (l.drop i) (j + i)
  | [], i, j, _ => by simp [ixP]
  | x :: l, 0, j, _ => by simp
  | x :: l, i + 1, j, h => by
    rw [ixP, if_neg (by rw [h x (by simp)]; decide), List.drop_succ_cons, ixP_take (i := i) fun y hy => h y (by simp [hy])]
    congr 1; omega
theorem index_spec (c : TabS T) {g : Nat} {f : Pc → Bool} {q : Int} (hL : Look T g f q) (l : List Pc) (hl : l.length ≤ 1000000) : Ret2 T 2 i_slices_IndexFunc_retry_piece_retry_piece [.sl 4 0 0 l.length none, .fn g [] [.ptr 1 0]] [some (.arr 4 (l.map cPc)), bx q] (fun v h' => v = .i .i64 (ixP f l 0) ∧ h' = [some (.arr 4 (l.map cPc)), bx q]) := by
  refine Ret2_fnv c.indexF rfl rfl ?_
  unfold bx
  (repeat' with_reducible first |apply qA|apply qB|apply qC|apply qD|apply qE|apply qF|(apply qG;decide)|apply qH|apply qI|apply qJ|apply qK|((first|apply qL|apply qM|apply qN|apply qO|((first|apply qP|apply qQ);decide +kernel));(conv=>lhs;simp only[go_sem, ibin, ishift])<;>rfl)|((first|apply qR|apply qS);(conv=>lhs;simp only[go_sem])<;>rfl;rfl)|((first|apply qT|apply qU);(conv=>lhs;simp only[go_sem])<;>rfl;rfl)|apply qV|apply qW|apply qX|apply qY|apply qZ)
  refine W2_loopu (fun m u g => ∃ j, j + m = l.length ∧ (∀ x ∈ l.take j, f x = false) ∧ u = [(8, .i .i64 j)] ∧ g = []) l.length ⟨0, by omega, by simp, rfl, rfl⟩ rfl rfl ?_
  rintro m u g ⟨j, hj, hno, rfl, rfl⟩
  intro e1 h1 he1 hh1; simp only [egd, supE, hgd, supH, Nat.reduceEqDiff, Nat.reduceAdd, if_true, if_false, reduceIte] at he1 hh1; subst he1; subst hh1
  by_cases hjt : j < l.length
  · have hjl : j < l.length := by omega
    have hg := List.getElem?_eq_getElem hjl
    have htk : l.take (j + 1) = l.take j ++ [l[j]] := by rw [List.take_add_one, List.getElem?_eq_getElem hjl]; rfl
    have hmem := List.getElem_mem hjl
    generalize l[j] = x at hg htk hmem
    have hel : l.drop j = x :: l.drop (j + 1) := by
      rw [List.drop_eq_getElem_cons hjl]; congr 1; exact (List.getElem?_eq_some_iff.1 hg).2
    have h0 : (0 : Int) ≤ (j : Int) := by omega
    have h1 : (j : Int) < (l.length : Int) := by omega
    have zj : decide (j < l.length) = true := decide_eq_true hjl
    have zji : decide ((j : Int) < (l.length : Int)) = true := decide_eq_true h1
    have wj := wS (show j < 9223372036854775807 by omega)
    (repeat' with_reducible first |apply qA|apply qB|apply qC|apply qD|apply qE|apply qF|(apply qG;decide)|apply qH|apply qI|apply qJ|apply qK|((first|apply qL|apply qM|apply qN|apply qO|((first|apply qP|apply qQ);decide +kernel));(conv=>lhs;simp only[go_sem, ibin, ishift, zj, zji])<;>rfl)|((first|apply qR|apply qS);(conv=>lhs;simp only[go_sem])<;>rfl;rfl)|((first|apply qT|apply qU);(conv=>lhs;simp only[go_sem])<;>rfl;rfl)|apply qV|apply qW|apply qX|apply qY|apply qZ)
    (with_reducible((first|apply pA|apply pB|apply pC|apply pD|apply pE|((first|apply pF|apply pG);decide +kernel));(conv=>lhs;simp only[go_sem, ibin, ishift, hg, hjl, cPc, h0, h1])<;>rfl))
    refine CK_call [1] (hL x) (by decide) (by simp) rfl (by first | rfl | (simp only [go_sem, Pc.v]; done) | (simp only [go_sem, Pc.v] <;> rfl)) (by first | rfl | (simp only [go_sem, bx]; done) | (simp only [go_sem, bx] <;> rfl)) ?_
    rintro v h' ⟨rfl, rfl⟩
    unfold bx
    cases hf : f x with
    | true =>
      (with_reducible((first|apply WO2_finw|apply WO2_fina);(conv=>lhs;simp only[go_sem, ibin, ishift])<;>rfl))
      (repeat' with_reducible first |apply qA|apply qB|apply qC|apply qD|apply qE|apply qF|(apply qG;decide)|apply qH|apply qI|apply qJ|apply qK|((first|apply qL|apply qM|apply qN|apply qO|((first|apply qP|apply qQ);decide +kernel));(conv=>lhs;simp only[go_sem, ibin, ishift])<;>rfl)|((first|apply qR|apply qS);(conv=>lhs;simp only[go_sem])<;>rfl;rfl)|((first|apply qT|apply qU);(conv=>lhs;simp only[go_sem])<;>rfl;rfl)|apply qV|apply qW|apply qX|apply qY|apply qZ)
      refine ⟨by first | exact .inr rfl | exact .inl rfl, _, _, (by (conv => lhs; simp only [go_sem, ibin, ishift]) <;> with_reducible rfl), (by (conv => lhs; simp only [go_sem, ibin, ishift]) <;> with_reducible rfl), ?_⟩
      refine ⟨[0, 1], by decide, rfl, ?_⟩
      rw [ixP_take hno, hel, ixP, if_pos hf, Nat.zero_add]
      exact ⟨rfl, rfl⟩
    | false =>
      (with_reducible((first|apply WO2_finw|apply WO2_fina);(conv=>lhs;simp only[go_sem, ibin, ishift])<;>rfl))
      (repeat' with_reducible first |apply qA|apply qB|apply qC|apply qD|apply qE|apply qF|(apply qG;decide)|apply qH|apply qI|apply qJ|apply qK|((first|apply qL|apply qM|apply qN|apply qO|((first|apply qP|apply qQ);decide +kernel));(conv=>lhs;simp only[go_sem, ibin, ishift, wj])<;>rfl)|((first|apply qR|apply qS);(conv=>lhs;simp only[go_sem])<;>rfl;rfl)|((first|apply qT|apply qU);(conv=>lhs;simp only[go_sem])<;>rfl;rfl)|apply qV|apply qW|apply qX|apply qY|apply qZ)
      refine ⟨[0, 1], by decide, rfl, ?_⟩
      exact ⟨l.length - (j + 1), _, _, by omega, ⟨j + 1, by omega, fun y hy => by
        rw [htk] at hy
        rcases List.mem_append.1 hy with hy | hy
        · exact hno y hy
        · rw [List.mem_singleton.1 hy]; exact hf, rfl, rfl⟩, rfl, (by first | rfl | ((conv => lhs; simp only [go_sem, ibin, ishift]) <;> rfl))⟩
  have hje : j = l.length := by omega
  have zj : decide (j < l.length) = false := decide_eq_false hjt
  have zji : decide ((j : Int) < (l.length : Int)) = false := decide_eq_false (by omega)
  (repeat' with_reducible first |apply qA|apply qB|apply qC|apply qD|apply qE|apply qF|(apply qG;decide)|apply qH|apply qI|apply qJ|apply qK|((first|apply qL|apply qM|apply qN|apply qO|((first|apply qP|apply qQ);decide +kernel));(conv=>lhs;simp only[go_sem, ibin, ishift, zj, zji])<;>rfl)|((first|apply qR|apply qS);(conv=>lhs;simp only[go_sem])<;>rfl;rfl)|((first|apply qT|apply qU);(conv=>lhs;simp only[go_sem])<;>rfl;rfl)|apply qV|apply qW|apply qX|apply qY|apply qZ)
  refine ⟨by first | exact .inr rfl | exact .inl rfl, _, _, (by (conv => lhs; simp only [go_sem, ibin, ishift]) <;> with_reducible rfl), (by (conv => lhs; simp only [go_sem, ibin, ishift]) <;> with_reducible rfl), ?_⟩
  refine ⟨[0, 1], by decide, rfl, ?_⟩
  rw [hje, List.take_length] at hno
  rw [ixP_take (i := l.length) (by rw [List.take_length]; exact hno), List.drop_length, ixP]
  exact ⟨rfl, rfl⟩
theorem find_spec (c : TabS T) (s : Sn) (hl : s.opn.length ≤ 100000) (q : Int) : Ret2 T 2 i_retry_Sender_find [.ptr 0 0, .i .u16 q] s.h (fun v h' => v = .i .i64 (ixP (fun x => decide (x.seq = q)) s.opn 0) ∧ h' = s.h) := by
  refine Ret2_fnv c.find rfl rfl ?_
  unfold Sn.h Sn.o
  (repeat' with_reducible first |apply qA|apply qB|apply qC|apply qD|apply qE|apply qF|(apply qG;decide)|apply qH|apply qI|apply qJ|apply qK|((first|apply qL|apply qM|apply qN|apply qO|((first|apply qP|apply qQ);decide +kernel));(conv=>lhs;simp only[go_sem, ibin, ishift])<;>rfl)|((first|apply qR|apply qS);(conv=>lhs;simp only[go_sem])<;>rfl;rfl)|((first|apply qT|apply qU);(conv=>lhs;simp only[go_sem])<;>rfl;rfl)|apply qV|apply qW|apply qX|apply qY|apply qZ)
  (with_reducible((first|apply pA|apply pB|apply pC|apply pD|apply pE|((first|apply pF|apply pG);decide +kernel));(conv=>lhs;simp only[go_sem, ibin, ishift])<;>rfl))
  refine CK_call [1, 2] (index_spec c (find1_look c q) s.opn (by omega)) (by decide) (by simp) rfl rfl (by first | rfl | (simp only [go_sem, bx]; done) | (simp only [go_sem, bx] <;> rfl)) ?_
  rintro v h' ⟨rfl, rfl⟩
  unfold bx
  (with_reducible((first|apply WO2_finw|apply WO2_fina);(conv=>lhs;simp only[go_sem, ibin, ishift])<;>rfl))
  (repeat' with_reducible first |apply qA|apply qB|apply qC|apply qD|apply qE|apply qF|(apply qG;decide)|apply qH|apply qI|apply qJ|apply qK|((first|apply qL|apply qM|apply qN|apply qO|((first|apply qP|apply qQ);decide +kernel));(conv=>lhs;simp only[go_sem, ibin, ishift])<;>rfl)|((first|apply qR|apply qS);(conv=>lhs;simp only[go_sem])<;>rfl;rfl)|((first|apply qT|apply qU);(conv=>lhs;simp only[go_sem])<;>rfl;rfl)|apply qV|apply qW|apply qX|apply qY|apply qZ)
  refine ⟨by first | exact .inr rfl | exact .inl rfl, _, _, (by (conv => lhs; simp only [go_sem, ibin, ishift]) <;> with_reducible rfl), (by (conv => lhs; simp only [go_sem, ibin, ishift]) <;> with_reducible rfl), ?_⟩
  refine ⟨[0, 1], by decide, rfl, ?_⟩
  exact ⟨rfl, rfl⟩
/-- a piece is taken out -/
def woutP (l : List Pc) (i : Nat) : List Pc := l.take i ++ l.drop (i + 1)
def zP : List PV := [.i .u16 0, .nils, .i .i64 0, .i .i64 0]
theorem delete_spec (c : TabS T) (l : List Pc) (i : Nat) (hi : i < l.length) (hl : l.length ≤ 1000000) : Ret2 T 1 i_slices_Delete_retry_piece_retry_piece [.sl 4 0 0 l.length none, .i .i64 i, .i .i64 ((i + 1 : Nat) : Int)] [some (.arr 4 (l.map cPc))] (fun v h' => v = .sl 4 0 0 (woutP l i).length (some l.length) ∧ h' = [some (.arr 4 ((woutP l i).map cPc ++ [zP]))]) := by
  refine Ret2_fnv c.delete rfl rfl ?_
  have a0 : (0 : Int) ≤ (i : Int) := by omega
  have a1 : (i : Int) ≤ ((i + 1 : Nat) : Int) := by omega
  have a2 : ((i + 1 : Nat) : Int) ≤ (l.length : Int) := by omega
  have a3 : i ≤ i + 1 := by omega
  have a4 : i + 1 ≤ l.length := by omega
  have a5 : (0 : Int) ≤ ((i + 1 : Nat) : Int) := by omega
  have a6 : (i : Int) ≤ (l.length : Int) := by omega
  have a7 : i ≤ l.length := by omega
  have z1 : decide ((i : Int) = ((i + 1 : Nat) : Int)) = false := decide_eq_false (by omega)
  have z1n : decide (i = i + 1) = false := decide_eq_false (by omega)
  (repeat' with_reducible first |apply qA|apply qB|apply qC|apply qD|apply qE|apply qF|(apply qG;decide)|apply qH|apply qI|apply qJ|apply qK|((first|apply qL|apply qM|apply qN|apply qO|((first|apply qP|apply qQ);decide +kernel));(conv=>lhs;simp only[go_sem, ibin, ishift, a0, a1, a2, a3, a4, a5, a6, a7, z1, z1n, Int.le_refl, Nat.le_refl])<;>rfl)|((first|apply qR|apply qS);(conv=>lhs;simp only[go_sem])<;>rfl;rfl)|((first|apply qT|apply qU);(conv=>lhs;simp only[go_sem])<;>rfl;rfl)|apply qV|apply qW|apply qX|apply qY|apply qZ)
  have hdl : (l.drop (i + 1)).length = l.length - (i + 1) := List.length_drop ..
  have hdt : (l.drop (i + 1)).take (l.length - (i + 1)) = l.drop (i + 1) := List.take_of_length_le (by omega)
  have b1 : i + 1 + (l.length - (i + 1)) ≤ l.length := by omega
  have b2 : i + (l.length - (i + 1)) ≤ l.length := by omega
  (repeat' with_reducible first |apply qA|apply qB|apply qC|apply qD|apply qE|apply qF|(apply qG;decide)|apply qH|apply qI|apply qJ|apply qK|((first|apply qL|apply qM|apply qN|apply qO|((first|apply qP|apply qQ);decide +kernel));(conv=>lhs;simp only[go_sem, ibin, ishift, a0, a1, a2, a3, a4, a5, a6, a7, hdl, hdt, b1, b2, Int.le_refl, Nat.le_refl])<;>rfl)|((first|apply qR|apply qS);(conv=>lhs;simp only[go_sem])<;>rfl;rfl)|((first|apply qT|apply qU);(conv=>lhs;simp only[go_sem])<;>rfl;rfl)|apply qV|apply qW|apply qX|apply qY|apply qZ)
  have hWl : (woutP l i).length = i + (l.length - (i + 1)) := by rw [woutP, List.length_append, List.length_take, List.length_drop]; omega
  obtain ⟨z, hz⟩ : ∃ z, l.drop (i + (l.length - (i + 1))) = [z] := by
    have : (l.drop (i + (l.length - (i + 1)))).length = 1 := by rw [List.length_drop]; omega
    exact List.length_eq_one_iff.1 this
  rw [hz, show List.map cPc (l.take i) ++ List.map cPc (l.drop (i + 1)) = (woutP l i).map cPc by rw [woutP, List.map_append], ← hWl]
  have hone : l.length - (woutP l i).length = 1 := by omega
  have c1 : ((woutP l i).length : Int) ≤ (l.length : Int) := by omega
  have c2 : (0 : Int) ≤ ((woutP l i).length : Int) := by omega
  have c3 : (woutP l i).length ≤ l.length := by omega
  generalize woutP l i = W at hWl hone c1 c2 c3
  have htk : (W.map cPc ++ [cPc z]).take W.length = W.map cPc := by rw [List.take_left' (by simp)]
  have hdr : (W.map cPc ++ [cPc z]).drop (W.length + 1) = [] := List.drop_of_length_le (by simp)
  simp only [List.map_cons, List.map_nil]
  (repeat' with_reducible first |apply qA|apply qB|apply qC|apply qD|apply qE|apply qF|(apply qG;decide)|apply qH|apply qI|apply qJ|apply qK|((first|apply qL|apply qM|apply qN|apply qO|((first|apply qP|apply qQ);decide +kernel));(conv=>lhs;simp only[go_sem, ibin, ishift, c1, c2, c3, hone, htk, hdr, Int.le_refl, Nat.le_refl, List.replicate_one, List.map_append])<;>rfl)|((first|apply qR|apply qS);(conv=>lhs;simp only[go_sem])<;>rfl;rfl)|((first|apply qT|apply qU);(conv=>lhs;simp only[go_sem])<;>rfl;rfl)|apply qV|apply qW|apply qX|apply qY|apply qZ)
  refine ⟨by first | exact .inr rfl | exact .inl rfl, _, _, (by (conv => lhs; simp only [go_sem, ibin, ishift]) <;> with_reducible rfl), (by (conv => lhs; simp only [go_sem, ibin, ishift]) <;> with_reducible rfl), ?_⟩
  refine ⟨[0], by decide, rfl, ?_⟩
  exact ⟨rfl, rfl⟩
theorem ixP_cases (f : Pc → Bool) : ∀ (l : List Pc) (j : Nat), (ixP f l j = -1 ∧ ∀ x ∈ l, f x = false) ∨ ∃ i : Nat, ixP f l j = ((j + i : Nat) : Int) ∧ i < l.length ∧ (∃ x, l[i]? = some x ∧ f x = true) ∧ ∀ y ∈ l.take i, f y = false
  | [], j => .inl ⟨rfl, by simp⟩
  | x :: l, j => by
    rw [ixP]
    cases hx : f x with
    | true => exact .inr ⟨0, by rw [if_pos rfl]; simp, by simp, ⟨x, rfl, hx⟩, by simp⟩
    | false =>
      rw [if_neg (by decide)]
      rcases ixP_cases f l (j + 1) with ⟨a, b⟩ | ⟨i, a, b, c, d⟩
      · exact .inl ⟨a, fun y hy => (List.mem_cons.1 hy).elim (fun e => e ▸ hx) (b y)⟩
      · refine .inr ⟨i + 1, by rw [a]; congr 1; omega, by simp only [List.length_cons]; omega, c, fun y hy => ?_⟩
        rw [List.take_succ_cons] at hy
        exact (List.mem_cons.1 hy).elim (fun e => e ▸ hx) (d y)
def Sn.ack (s : Sn) (q : Int) : Sn × Int :=
  if s.dead = true then (s, 190) else if ixP (fun x => decide (x.seq = q)) s.opn 0 < 0 then (s, 4) else (⟨s.win, s.pau, s.tim, s.next, woutP s.opn (ixP (fun x => decide (x.seq = q)) s.opn 0).toNat, s.dead⟩, 0)
theorem ack_spec (c : TabS T) (s : Sn) (hl : s.opn.length ≤ 100000) (q : Int) : Ret2 T 2 i_retry_Sender_Ack [.ptr 0 0, .i .u16 q] s.h (fun v h' => v = .i .i64 (s.ack q).2 ∧ h' = (s.ack q).1.h) := by
  refine Ret2_fnv c.ack rfl rfl ?_
  have hfs := find_spec c s hl q
  unfold Sn.ack
  cases hd : s.dead with
  | true =>
    rw [if_pos rfl]
    unfold Sn.h Sn.o
    rw [hd]
    (repeat' with_reducible first |apply qA|apply qB|apply qC|apply qD|apply qE|apply qF|(apply qG;decide)|apply qH|apply qI|apply qJ|apply qK|((first|apply qL|apply qM|apply qN|apply qO|((first|apply qP|apply qQ);decide +kernel));(conv=>lhs;simp only[go_sem, ibin, ishift])<;>rfl)|((first|apply qR|apply qS);(conv=>lhs;simp only[go_sem])<;>rfl;rfl)|((first|apply qT|apply qU);(conv=>lhs;simp only[go_sem])<;>rfl;rfl)|apply qV|apply qW|apply qX|apply qY|apply qZ)
    refine ⟨by first | exact .inr rfl | exact .inl rfl, _, _, (by (conv => lhs; simp only [go_sem, ibin, ishift]) <;> with_reducible rfl), (by (conv => lhs; simp only [go_sem, ibin, ishift]) <;> with_reducible rfl), ?_⟩
    refine ⟨[0, 1], by decide, rfl, ?_⟩
    exact ⟨rfl, rfl⟩
  | false =>
  simp only [Bool.false_eq_true, if_false]
  have hh : s.h = [some (.obj [.i .i64 s.win, .i .i64 s.pau, .i .i64 s.tim, .i .u16 s.next, .sl 4 1 0 s.opn.length none, .b false]), some (.arr 4 (s.opn.map cPc))] := by rw [Sn.h, Sn.o, hd]
  rw [hh] at hfs
  unfold Sn.h Sn.o
  rw [hd]
  have hcs := ixP_cases (fun x => decide (x.seq = q)) s.opn 0
  generalize ixP (fun x => decide (x.seq = q)) s.opn 0 = ix at hfs hcs
  (repeat' with_reducible first |apply qA|apply qB|apply qC|apply qD|apply qE|apply qF|(apply qG;decide)|apply qH|apply qI|apply qJ|apply qK|((first|apply qL|apply qM|apply qN|apply qO|((first|apply qP|apply qQ);decide +kernel));(conv=>lhs;simp only[go_sem, ibin, ishift])<;>rfl)|((first|apply qR|apply qS);(conv=>lhs;simp only[go_sem])<;>rfl;rfl)|((first|apply qT|apply qU);(conv=>lhs;simp only[go_sem])<;>rfl;rfl)|apply qV|apply qW|apply qX|apply qY|apply qZ)
  (with_reducible((first|apply pA|apply pB|apply pC|apply pD|apply pE|((first|apply pF|apply pG);decide +kernel));(conv=>lhs;simp only[go_sem, ibin, ishift])<;>rfl))
  refine CK_call [0, 1] hfs (by decide) (by simp) rfl rfl (by first | rfl | (simp only [go_sem, bx]; done) | (simp only [go_sem, bx] <;> rfl)) ?_
  rintro v h' ⟨rfl, rfl⟩
  rcases hcs with ⟨rfl, _⟩ | ⟨i, hi, hil, _, _⟩
  · (with_reducible((first|apply WO2_finw|apply WO2_fina);(conv=>lhs;simp only[go_sem, ibin, ishift])<;>rfl))
    (repeat' with_reducible first |apply qA|apply qB|apply qC|apply qD|apply qE|apply qF|(apply qG;decide)|apply qH|apply qI|apply qJ|apply qK|((first|apply qL|apply qM|apply qN|apply qO|((first|apply qP|apply qQ);decide +kernel));(conv=>lhs;simp only[go_sem, ibin, ishift])<;>rfl)|((first|apply qR|apply qS);(conv=>lhs;simp only[go_sem])<;>rfl;rfl)|((first|apply qT|apply qU);(conv=>lhs;simp only[go_sem])<;>rfl;rfl)|apply qV|apply qW|apply qX|apply qY|apply qZ)
    refine ⟨by first | exact .inr rfl | exact .inl rfl, _, _, (by (conv => lhs; simp only [go_sem, ibin, ishift]) <;> with_reducible rfl), (by (conv => lhs; simp only [go_sem, ibin, ishift]) <;> with_reducible rfl), ?_⟩
    refine ⟨[0, 1], by decide, rfl, ?_⟩
    rw [if_pos (by decide), hd]
    exact ⟨rfl, rfl⟩
  have hi2 : ix = (i : Int) := by rw [hi]; simp
  subst hi2
  clear hi
  have z0 : decide ((i : Int) < 0) = false := decide_eq_false (by omega)
  have wi1 := wS (show i < 9223372036854775807 by omega)
  rw [if_neg (show ¬((i : Int) < 0) by omega), Int.toNat_natCast]
  have hds := delete_spec c s.opn i hil (by omega)
  generalize woutP s.opn i = W at hds
  (with_reducible((first|apply WO2_finw|apply WO2_fina);(conv=>lhs;simp only[go_sem, ibin, ishift])<;>rfl))
  (repeat' with_reducible first |apply qA|apply qB|apply qC|apply qD|apply qE|apply qF|(apply qG;decide)|apply qH|apply qI|apply qJ|apply qK|((first|apply qL|apply qM|apply qN|apply qO|((first|apply qP|apply qQ);decide +kernel));(conv=>lhs;simp only[go_sem, ibin, ishift, z0])<;>rfl)|((first|apply qR|apply qS);(conv=>lhs;simp only[go_sem])<;>rfl;rfl)|((first|apply qT|apply qU);(conv=>lhs;simp only[go_sem])<;>rfl;rfl)|apply qV|apply qW|apply qX|apply qY|apply qZ)
  (with_reducible((first|apply pA|apply pB|apply pC|apply pD|apply pE|((first|apply pF|apply pG);decide +kernel));(conv=>lhs;simp only[go_sem, ibin, ishift, wi1])<;>rfl))
  refine CK_call [1] hds (by decide) (by simp) rfl rfl rfl ?_
  rintro v h' ⟨rfl, rfl⟩
  (with_reducible((first|apply WO2_finw|apply WO2_fina);(conv=>lhs;simp only[go_sem, ibin, ishift])<;>rfl))
  (repeat' with_reducible first |apply qA|apply qB|apply qC|apply qD|apply qE|apply qF|(apply qG;decide)|apply qH|apply qI|apply qJ|apply qK|apply qX|((first|apply qR|apply qS);(conv=>lhs;simp only[go_sem])<;>rfl;rfl)|((first|apply qT|apply qU);(conv=>lhs;simp only[go_sem])<;>rfl;rfl)|apply qZ|apply qY|apply qW)
  have htk : (W.map cPc ++ [zP]).take W.length = W.map cPc := by rw [List.take_left' (by simp)]
  refine W2.weak (Wk.trans (Wk.capc 0 4 rfl rfl) (Wk.row 1 W.length rfl)) ?_
  rw [htk]
  (repeat' with_reducible first |apply qA|apply qB|apply qC|apply qD|apply qE|apply qF|(apply qG;decide)|apply qH|apply qI|apply qJ|apply qK|((first|apply qL|apply qM|apply qN|apply qO|((first|apply qP|apply qQ);decide +kernel));(conv=>lhs;simp only[go_sem, ibin, ishift])<;>rfl)|((first|apply qR|apply qS);(conv=>lhs;simp only[go_sem])<;>rfl;rfl)|((first|apply qT|apply qU);(conv=>lhs;simp only[go_sem])<;>rfl;rfl)|apply qV|apply qW|apply qX|apply qY|apply qZ)
  refine ⟨by first | exact .inr rfl | exact .inl rfl, _, _, (by (conv => lhs; simp only [go_sem, ibin, ishift]) <;> with_reducible rfl), (by (conv => lhs; simp only [go_sem, ibin, ishift]) <;> with_reducible rfl), ?_⟩
  refine ⟨[0, 1], by decide, rfl, ?_⟩
  exact ⟨rfl, rfl⟩
end Go.Proofs.Ytadbipeachcekaa.Ab
