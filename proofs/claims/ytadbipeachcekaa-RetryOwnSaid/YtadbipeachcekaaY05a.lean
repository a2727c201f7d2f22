/- Chapter 05: the sender: what is asked, a new one. -/
import Derived.Test.YtadbipeachcekaaMS2
import Derived.Test.YtadbipeachcekaaC05
namespace Go.Proofs.Ytadbipeachcekaa.Ab
open Go
set_option linter.unusedVariables false
set_option linter.unusedSimpArgs false
variable {T : AT}
structure Pc where
  seq : Int
  data : List UInt8
  sent : Int
  since : Int
def cPc (p : Pc) : List PV := [.i .u16 p.seq, .fz 1 (p.data.map c8), .i .i64 p.sent, .i .i64 p.since]
structure Sn where
  win : Int
  pau : Int
  tim : Int
  next : Int
  opn : List Pc
  dead : Bool
def Sn.o (s : Sn) (i : Nat) : Option B2 := some (.obj [.i .i64 s.win, .i .i64 s.pau, .i .i64 s.tim, .i .u16 s.next, .sl 4 i 0 s.opn.length none, .b s.dead])
def Sn.h (s : Sn) : SH := [s.o 1, some (.arr 4 (s.opn.map cPc))]
structure TabS (T : AT) : Prop where
  new : T i_retry_New = some (.fn c_retry_New)
  new1 : T i_retry_New_1 = some (.fn c_retry_New_1)
  put : T i_retry_Sender_Put = some (.fn c_retry_Sender_Put)
  tick : T i_retry_Sender_Tick = some (.fn c_retry_Sender_Tick)
  find : T i_retry_Sender_find = some (.fn c_retry_Sender_find)
  find1 : T i_retry_Sender_find_1 = some (.fn c_retry_Sender_find_1)
  ack : T i_retry_Sender_Ack = some (.fn c_retry_Sender_Ack)
  ackTo : T i_retry_Sender_AckTo = some (.fn c_retry_Sender_AckTo)
  ackTo1 : T i_retry_Sender_AckTo_1 = some (.fn c_retry_Sender_AckTo_1)
  opn : T i_retry_Sender_Open = some (.fn c_retry_Sender_Open)
  dead : T i_retry_Sender_Dead = some (.fn c_retry_Sender_Dead)
  delete : T i_slices_Delete_retry_piece_retry_piece = some (.fn c_slices_Delete_retry_piece_retry_piece)
  deleteF : T i_slices_DeleteFunc_retry_piece_retry_piece = some (.fn c_slices_DeleteFunc_retry_piece_retry_piece)
  indexF : T i_slices_IndexFunc_retry_piece_retry_piece = some (.fn c_slices_IndexFunc_retry_piece_retry_piece)
  clone : T i_slices_Clone_byte_byte = some (.fn c_slices_Clone_byte_byte)
  dist : T i_turn_Dist = some (.fn c_turn_Dist)
  behind : T i_turn_Behind = some (.fn c_turn_Behind)
  within : T i_turn_Within = some (.fn c_turn_Within)
def dist (a b : Int) : Int := IntKind.i64.wrap (IntKind.i16.wrap (IntKind.u16.wrap (b - a)))
theorem i16_wrap (x : Int) : IntKind.i16.wrap x = (x + 32768) % 65536 - 32768 := by
  simp only [IntKind.wrap, IntKind.signed, IntKind.bits, Bool.true_and]
  split
  · rename_i h
    have := of_decide_eq_true h
    omega
  · rename_i h
    have := of_decide_eq_false (Bool.not_eq_true _ ▸ h)
    omega
theorem dist_eq (a b : Int) : dist a b = (b - a + 32768) % 65536 - 32768 := by
  rw [dist, wi _ (by rw [i16_wrap]; omega) (by rw [i16_wrap]; omega), i16_wrap, IntKind.wrap_u16]
  omega
theorem dist_spec (c : TabS T) (a b : Int) : Ret2 T 0 i_turn_Dist [.i .u16 a, .i .u16 b] [] (fun v h' => v = .i .i64 (dist a b) ∧ h' = []) := by
  refine Ret2_fnv c.dist rfl rfl ?_
  (repeat' with_reducible first |apply qA|apply qB|apply qC|apply qD|apply qE|apply qF|(apply qG;decide)|apply qH|apply qI|apply qJ|apply qK|((first|apply qL|apply qM|apply qN|apply qO|((first|apply qP|apply qQ);decide +kernel));(conv=>lhs;simp only[go_sem, ibin, ishift])<;>rfl)|((first|apply qR|apply qS);(conv=>lhs;simp only[go_sem])<;>rfl;rfl)|((first|apply qT|apply qU);(conv=>lhs;simp only[go_sem])<;>rfl;rfl)|apply qV|apply qW|apply qX|apply qY|apply qZ)
  refine ⟨by first | exact .inr rfl | exact .inl rfl, _, _, (by (conv => lhs; simp only [go_sem, ibin, ishift]) <;> with_reducible rfl), (by (conv => lhs; simp only [go_sem, ibin, ishift]) <;> with_reducible rfl), ?_⟩
  refine ⟨[], by decide, rfl, ?_⟩
  exact ⟨rfl, rfl⟩
theorem behind_spec (c : TabS T) (a b : Int) : Ret2 T 0 i_turn_Behind [.i .u16 a, .i .u16 b] [] (fun v h' => v = .b (decide (dist a b > 0)) ∧ h' = []) := by
  refine Ret2_fnv c.behind rfl rfl ?_
  (repeat' with_reducible first |apply qA|apply qB|apply qC|apply qD|apply qE|apply qF|(apply qG;decide)|apply qH|apply qI|apply qJ|apply qK|((first|apply qL|apply qM|apply qN|apply qO|((first|apply qP|apply qQ);decide +kernel));(conv=>lhs;simp only[go_sem, ibin, ishift])<;>rfl)|((first|apply qR|apply qS);(conv=>lhs;simp only[go_sem])<;>rfl;rfl)|((first|apply qT|apply qU);(conv=>lhs;simp only[go_sem])<;>rfl;rfl)|apply qV|apply qW|apply qX|apply qY|apply qZ)
  (with_reducible((first|apply pA|apply pB|apply pC|apply pD|apply pE|((first|apply pF|apply pG);decide +kernel));(conv=>lhs;simp only[go_sem, ibin, ishift])<;>rfl))
  refine CK_pure (dist_spec c a b) rfl ?_
  rintro v h' ⟨rfl, rfl⟩
  (with_reducible((first|apply WO2_finw|apply WO2_fina);(conv=>lhs;simp only[go_sem, ibin, ishift])<;>rfl))
  (repeat' with_reducible first |apply qA|apply qB|apply qC|apply qD|apply qE|apply qF|(apply qG;decide)|apply qH|apply qI|apply qJ|apply qK|((first|apply qL|apply qM|apply qN|apply qO|((first|apply qP|apply qQ);decide +kernel));(conv=>lhs;simp only[go_sem, ibin, ishift])<;>rfl)|((first|apply qR|apply qS);(conv=>lhs;simp only[go_sem])<;>rfl;rfl)|((first|apply qT|apply qU);(conv=>lhs;simp only[go_sem])<;>rfl;rfl)|apply qV|apply qW|apply qX|apply qY|apply qZ)
  refine ⟨by first | exact .inr rfl | exact .inl rfl, _, _, (by (conv => lhs; simp only [go_sem, ibin, ishift]) <;> with_reducible rfl), (by (conv => lhs; simp only [go_sem, ibin, ishift]) <;> with_reducible rfl), ?_⟩
  refine ⟨[], by decide, rfl, ?_⟩
  exact ⟨rfl, rfl⟩
def isIn (a f : Int) (n : Int) : Bool := decide (IntKind.i64.wrap (IntKind.u16.wrap (a - f)) < n)
theorem within_spec (c : TabS T) (a f n : Int) : Ret2 T 0 i_turn_Within [.i .u16 a, .i .u16 f, .i .i64 n] [] (fun v h' => v = .b (isIn a f n) ∧ h' = []) := by
  refine Ret2_fnv c.within rfl rfl ?_
  (repeat' with_reducible first |apply qA|apply qB|apply qC|apply qD|apply qE|apply qF|(apply qG;decide)|apply qH|apply qI|apply qJ|apply qK|((first|apply qL|apply qM|apply qN|apply qO|((first|apply qP|apply qQ);decide +kernel));(conv=>lhs;simp only[go_sem, ibin, ishift])<;>rfl)|((first|apply qR|apply qS);(conv=>lhs;simp only[go_sem])<;>rfl;rfl)|((first|apply qT|apply qU);(conv=>lhs;simp only[go_sem])<;>rfl;rfl)|apply qV|apply qW|apply qX|apply qY|apply qZ)
  refine ⟨by first | exact .inr rfl | exact .inl rfl, _, _, (by (conv => lhs; simp only [go_sem, ibin, ishift]) <;> with_reducible rfl), (by (conv => lhs; simp only [go_sem, ibin, ishift]) <;> with_reducible rfl), ?_⟩
  refine ⟨[], by decide, rfl, ?_⟩
  exact ⟨rfl, rfl⟩
def okSet (w p t : Int) : Prop := (1 ≤ w ∧ w ≤ 64) ∧ (1 ≤ p ∧ p ≤ 1000) ∧ (1 ≤ t ∧ t ≤ 20)
instance (w p t : Int) : Decidable (okSet w p t) := by unfold okSet; exact inferInstance
theorem new1_spec (c : TabS T) (n k : Int) : Ret2 T 0 i_retry_New_1 [.i .i64 n, .i .i64 k] [] (fun v h' => v = .b (decide (1 ≤ n ∧ n ≤ k)) ∧ h' = []) := by
  refine Ret2_fnv c.new1 rfl rfl ?_
  by_cases h1 : 1 ≤ n
  · have z1 : decide (n ≥ 1) = true := decide_eq_true h1
    (repeat' with_reducible first |apply qA|apply qB|apply qC|apply qD|apply qE|apply qF|(apply qG;decide)|apply qH|apply qI|apply qJ|apply qK|((first|apply qL|apply qM|apply qN|apply qO|((first|apply qP|apply qQ);decide +kernel));(conv=>lhs;simp only[go_sem, ibin, ishift, z1])<;>rfl)|((first|apply qR|apply qS);(conv=>lhs;simp only[go_sem])<;>rfl;rfl)|((first|apply qT|apply qU);(conv=>lhs;simp only[go_sem])<;>rfl;rfl)|apply qV|apply qW|apply qX|apply qY|apply qZ)
    refine ⟨by first | exact .inr rfl | exact .inl rfl, _, _, (by (conv => lhs; simp only [go_sem, ibin, ishift]) <;> with_reducible rfl), (by (conv => lhs; simp only [go_sem, ibin, ishift]) <;> with_reducible rfl), ?_⟩
    refine ⟨[], by decide, rfl, ?_⟩
    exact ⟨by simp [h1, SV.cv], rfl⟩
  · have z1 : decide (n ≥ 1) = false := decide_eq_false h1
    (repeat' with_reducible first |apply qA|apply qB|apply qC|apply qD|apply qE|apply qF|(apply qG;decide)|apply qH|apply qI|apply qJ|apply qK|((first|apply qL|apply qM|apply qN|apply qO|((first|apply qP|apply qQ);decide +kernel));(conv=>lhs;simp only[go_sem, ibin, ishift, z1])<;>rfl)|((first|apply qR|apply qS);(conv=>lhs;simp only[go_sem])<;>rfl;rfl)|((first|apply qT|apply qU);(conv=>lhs;simp only[go_sem])<;>rfl;rfl)|apply qV|apply qW|apply qX|apply qY|apply qZ)
    refine ⟨by first | exact .inr rfl | exact .inl rfl, _, _, (by (conv => lhs; simp only [go_sem, ibin, ishift]) <;> with_reducible rfl), (by (conv => lhs; simp only [go_sem, ibin, ishift]) <;> with_reducible rfl), ?_⟩
    refine ⟨[], by decide, rfl, ?_⟩
    exact ⟨by simp [h1, SV.cv], rfl⟩
theorem new_spec (c : TabS T) (w p t f : Int) : Ret2 T 0 i_retry_New [.i .i64 w, .i .i64 p, .i .i64 t, .i .u16 f] [] (fun v h' => (¬okSet w p t → v = .tup [.nilp, .i .i64 1] ∧ h' = []) ∧ (okSet w p t → v = .tup [.ptr 0 0, .i .i64 0] ∧ h' = (Sn.mk w p t f [] false).h)) := by
  refine Ret2_fnv c.new rfl rfl ?_
  (repeat' with_reducible first |apply qA|apply qB|apply qC|apply qD|apply qE|apply qF|(apply qG;decide)|apply qH|apply qI|apply qJ|apply qK|((first|apply qL|apply qM|apply qN|apply qO|((first|apply qP|apply qQ);decide +kernel));(conv=>lhs;simp only[go_sem, ibin, ishift])<;>rfl)|((first|apply qR|apply qS);(conv=>lhs;simp only[go_sem])<;>rfl;rfl)|((first|apply qT|apply qU);(conv=>lhs;simp only[go_sem])<;>rfl;rfl)|apply qV|apply qW|apply qX|apply qY|apply qZ)
  (with_reducible((first|apply pA|apply pB|apply pC|apply pD|apply pE|((first|apply pF|apply pG);decide +kernel));(conv=>lhs;simp only[go_sem, ibin, ishift])<;>rfl))
  refine CK_pure (new1_spec c w 64) rfl ?_
  rintro v h' ⟨rfl, rfl⟩
  by_cases h1 : 1 ≤ w ∧ w ≤ 64
  rotate_left
  · rw [decide_eq_false h1]
    (with_reducible((first|apply WO2_finw|apply WO2_fina);(conv=>lhs;simp only[go_sem, ibin, ishift])<;>rfl))
    (repeat' with_reducible first |apply qA|apply qB|apply qC|apply qD|apply qE|apply qF|(apply qG;decide)|apply qH|apply qI|apply qJ|apply qK|((first|apply qL|apply qM|apply qN|apply qO|((first|apply qP|apply qQ);decide +kernel));(conv=>lhs;simp only[go_sem, ibin, ishift])<;>rfl)|((first|apply qR|apply qS);(conv=>lhs;simp only[go_sem])<;>rfl;rfl)|((first|apply qT|apply qU);(conv=>lhs;simp only[go_sem])<;>rfl;rfl)|apply qV|apply qW|apply qX|apply qY|apply qZ)
    refine ⟨by first | exact .inr rfl | exact .inl rfl, _, _, (by (conv => lhs; simp only [go_sem, ibin, ishift]) <;> with_reducible rfl), (by (conv => lhs; simp only [go_sem, ibin, ishift]) <;> with_reducible rfl), ?_⟩
    refine ⟨[], by decide, rfl, ?_⟩
    exact ⟨fun _ => ⟨rfl, rfl⟩, fun h => (h1 h.1).elim⟩
  rw [decide_eq_true h1]
  (with_reducible((first|apply pA|apply pB|apply pC|apply pD|apply pE|((first|apply pF|apply pG);decide +kernel));(conv=>lhs;simp only[go_sem, ibin, ishift])<;>rfl))
  refine CK_pure (new1_spec c p 1000) rfl ?_
  rintro v h' ⟨rfl, rfl⟩
  by_cases h2 : 1 ≤ p ∧ p ≤ 1000
  rotate_left
  · rw [decide_eq_false h2]
    (with_reducible((first|apply WO2_finw|apply WO2_fina);(conv=>lhs;simp only[go_sem, ibin, ishift])<;>rfl))
    (repeat' with_reducible first |apply qA|apply qB|apply qC|apply qD|apply qE|apply qF|(apply qG;decide)|apply qH|apply qI|apply qJ|apply qK|((first|apply qL|apply qM|apply qN|apply qO|((first|apply qP|apply qQ);decide +kernel));(conv=>lhs;simp only[go_sem, ibin, ishift])<;>rfl)|((first|apply qR|apply qS);(conv=>lhs;simp only[go_sem])<;>rfl;rfl)|((first|apply qT|apply qU);(conv=>lhs;simp only[go_sem])<;>rfl;rfl)|apply qV|apply qW|apply qX|apply qY|apply qZ)
    refine ⟨by first | exact .inr rfl | exact .inl rfl, _, _, (by (conv => lhs; simp only [go_sem, ibin, ishift]) <;> with_reducible rfl), (by (conv => lhs; simp only [go_sem, ibin, ishift]) <;> with_reducible rfl), ?_⟩
    refine ⟨[], by decide, rfl, ?_⟩
    exact ⟨fun _ => ⟨rfl, rfl⟩, fun h => (h2 h.2.1).elim⟩
  rw [decide_eq_true h2]
  (with_reducible((first|apply pA|apply pB|apply pC|apply pD|apply pE|((first|apply pF|apply pG);decide +kernel));(conv=>lhs;simp only[go_sem, ibin, ishift])<;>rfl))
  refine CK_pure (new1_spec c t 20) rfl ?_
  rintro v h' ⟨rfl, rfl⟩
  by_cases h3 : 1 ≤ t ∧ t ≤ 20
  rotate_left
  · rw [decide_eq_false h3]
    (with_reducible((first|apply WO2_finw|apply WO2_fina);(conv=>lhs;simp only[go_sem, ibin, ishift])<;>rfl))
    (repeat' with_reducible first |apply qA|apply qB|apply qC|apply qD|apply qE|apply qF|(apply qG;decide)|apply qH|apply qI|apply qJ|apply qK|((first|apply qL|apply qM|apply qN|apply qO|((first|apply qP|apply qQ);decide +kernel));(conv=>lhs;simp only[go_sem, ibin, ishift])<;>rfl)|((first|apply qR|apply qS);(conv=>lhs;simp only[go_sem])<;>rfl;rfl)|((first|apply qT|apply qU);(conv=>lhs;simp only[go_sem])<;>rfl;rfl)|apply qV|apply qW|apply qX|apply qY|apply qZ)
    refine ⟨by first | exact .inr rfl | exact .inl rfl, _, _, (by (conv => lhs; simp only [go_sem, ibin, ishift]) <;> with_reducible rfl), (by (conv => lhs; simp only [go_sem, ibin, ishift]) <;> with_reducible rfl), ?_⟩
    refine ⟨[], by decide, rfl, ?_⟩
    exact ⟨fun _ => ⟨rfl, rfl⟩, fun h => (h3 h.2.2).elim⟩
  rw [decide_eq_true h3]
  (with_reducible((first|apply WO2_finw|apply WO2_fina);(conv=>lhs;simp only[go_sem, ibin, ishift])<;>rfl))
  (repeat' with_reducible first |apply qA|apply qB|apply qC|apply qD|apply qE|apply qF|(apply qG;decide)|apply qH|apply qI|apply qJ|apply qK|apply qX|((first|apply qR|apply qS);(conv=>lhs;simp only[go_sem])<;>rfl;rfl)|((first|apply qT|apply qU);(conv=>lhs;simp only[go_sem])<;>rfl;rfl)|apply qZ|apply qY|apply qW)
  ((repeat' with_reducible first |apply qA|apply qB|apply qC|apply qD|apply qE|apply qF|(apply qG;decide)|apply qH|apply qI|apply qJ|apply qK|apply qX|((first|apply qR|apply qS);(conv=>lhs;simp only[go_sem])<;>rfl;rfl)|((first|apply qT|apply qU);(conv=>lhs;simp only[go_sem])<;>rfl;rfl)|apply qZ|apply qY|apply qW);with_reducible((first|apply qL|apply qM|apply qN|apply qO|((first|apply qP|apply qQ);decide +kernel));(conv=>lhs;simp only[go_sem, ibin, ishift])<;>rfl))
  (repeat' with_reducible first |apply qA|apply qB|apply qC|apply qD|apply qE|apply qF|(apply qG;decide)|apply qH|apply qI|apply qJ|apply qK|apply qX|((first|apply qR|apply qS);(conv=>lhs;simp only[go_sem])<;>rfl;rfl)|((first|apply qT|apply qU);(conv=>lhs;simp only[go_sem])<;>rfl;rfl)|apply qZ|apply qY|apply qW)
  refine W2.weak (Wk.nilc 0 4 4 rfl rfl) ?_
  (repeat' with_reducible first |apply qA|apply qB|apply qC|apply qD|apply qE|apply qF|(apply qG;decide)|apply qH|apply qI|apply qJ|apply qK|((first|apply qL|apply qM|apply qN|apply qO|((first|apply qP|apply qQ);decide +kernel));(conv=>lhs;simp only[go_sem, ibin, ishift])<;>rfl)|((first|apply qR|apply qS);(conv=>lhs;simp only[go_sem])<;>rfl;rfl)|((first|apply qT|apply qU);(conv=>lhs;simp only[go_sem])<;>rfl;rfl)|apply qV|apply qW|apply qX|apply qY|apply qZ)
  refine ⟨by first | exact .inr rfl | exact .inl rfl, _, _, (by (conv => lhs; simp only [go_sem, ibin, ishift]) <;> with_reducible rfl), (by (conv => lhs; simp only [go_sem, ibin, ishift]) <;> with_reducible rfl), ?_⟩
  refine ⟨[0, 1], by decide, rfl, ?_⟩
  exact ⟨fun h => (h ⟨h1, h2, h3⟩).elim, fun _ => ⟨rfl, rfl⟩⟩
theorem dead_spec (c : TabS T) (s : Sn) : Ret2 T 2 i_retry_Sender_Dead [.ptr 0 0] s.h (fun v h' => v = .b s.dead ∧ h' = s.h) := by
  refine Ret2_fnv c.dead rfl rfl ?_
  unfold Sn.h Sn.o
  (repeat' with_reducible first |apply qA|apply qB|apply qC|apply qD|apply qE|apply qF|(apply qG;decide)|apply qH|apply qI|apply qJ|apply qK|((first|apply qL|apply qM|apply qN|apply qO|((first|apply qP|apply qQ);decide +kernel));(conv=>lhs;simp only[go_sem, ibin, ishift])<;>rfl)|((first|apply qR|apply qS);(conv=>lhs;simp only[go_sem])<;>rfl;rfl)|((first|apply qT|apply qU);(conv=>lhs;simp only[go_sem])<;>rfl;rfl)|apply qV|apply qW|apply qX|apply qY|apply qZ)
  refine ⟨by first | exact .inr rfl | exact .inl rfl, _, _, (by (conv => lhs; simp only [go_sem, ibin, ishift]) <;> with_reducible rfl), (by (conv => lhs; simp only [go_sem, ibin, ishift]) <;> with_reducible rfl), ?_⟩
  refine ⟨[0, 1], by decide, rfl, ?_⟩
  exact ⟨rfl, rfl⟩
def cU (x : Int) : List PV := [.i .u16 x]
theorem open_spec (c : TabS T) (s : Sn) (hl : s.opn.length ≤ 100000) : Ret2 T 2 i_retry_Sender_Open [.ptr 0 0] s.h (fun v h' => v = .sl 1 2 0 s.opn.length none ∧ h' = s.h ++ [some (.arr 1 ((s.opn.map Pc.seq).map cU))]) := by
  refine Ret2_fnv c.opn rfl rfl ?_
  unfold Sn.h Sn.o
  ((repeat' with_reducible first |apply qA|apply qB|apply qC|apply qD|apply qE|apply qF|(apply qG;decide)|apply qH|apply qI|apply qJ|apply qK|apply qX|((first|apply qR|apply qS);(conv=>lhs;simp only[go_sem])<;>rfl;rfl)|((first|apply qT|apply qU);(conv=>lhs;simp only[go_sem])<;>rfl;rfl)|apply qZ|apply qY|apply qW);with_reducible((first|apply qL|apply qM|apply qN|apply qO|((first|apply qP|apply qQ);decide +kernel));(conv=>lhs;simp only[go_sem, ibin, ishift])<;>rfl))
  ((repeat' with_reducible first |apply qA|apply qB|apply qC|apply qD|apply qE|apply qF|(apply qG;decide)|apply qH|apply qI|apply qJ|apply qK|apply qX|((first|apply qR|apply qS);(conv=>lhs;simp only[go_sem])<;>rfl;rfl)|((first|apply qT|apply qU);(conv=>lhs;simp only[go_sem])<;>rfl;rfl)|apply qZ|apply qY|apply qW);with_reducible((first|apply qL|apply qM|apply qN|apply qO|((first|apply qP|apply qQ);decide +kernel));(conv=>lhs;simp only[go_sem, ibin, ishift])<;>rfl))
  refine W2.wnil 3 1 rfl (by (conv => lhs; simp only [go_sem, ibin, ishift]) <;> with_reducible rfl) (by (conv => lhs; simp only [go_sem, ibin, ishift]) <;> with_reducible rfl) ?_
  (repeat' with_reducible first |apply qA|apply qB|apply qC|apply qD|apply qE|apply qF|(apply qG;decide)|apply qH|apply qI|apply qJ|apply qK|((first|apply qL|apply qM|apply qN|apply qO|((first|apply qP|apply qQ);decide +kernel));(conv=>lhs;simp only[go_sem, ibin, ishift])<;>rfl)|((first|apply qR|apply qS);(conv=>lhs;simp only[go_sem])<;>rfl;rfl)|((first|apply qT|apply qU);(conv=>lhs;simp only[go_sem])<;>rfl;rfl)|apply qV|apply qW|apply qX|apply qY|apply qZ)
  refine W2_loopu (fun m u g => ∃ (j : Nat) (W : List Int), j + m = s.opn.length ∧ W = (s.opn.take j).map Pc.seq ∧ W.length = j ∧ u = [(3, .sl 1 2 0 W.length none), (11, .i .i64 j)] ∧ g = [(2, .arr 1 (W.map cU))]) s.opn.length ⟨0, [], by omega, rfl, rfl, rfl, rfl⟩ rfl rfl ?_
  rintro m u g ⟨j, W, hj, hW, hWl, rfl, rfl⟩
  intro e1 h1 he1 hh1; simp only [egd, supE, hgd, supH, Nat.reduceEqDiff, Nat.reduceAdd, if_true, if_false, reduceIte] at he1 hh1; subst he1; subst hh1
  by_cases hjt : j < s.opn.length
  · have hjl : j < s.opn.length := by omega
    have hg := List.getElem?_eq_getElem hjl
    have htk : s.opn.take (j + 1) = s.opn.take j ++ [s.opn[j]] := by rw [List.take_add_one, List.getElem?_eq_getElem hjl]; rfl
    have hmem := List.getElem_mem hjl
    generalize s.opn[j] = x at hg htk hmem
    have h0 : (0 : Int) ≤ (j : Int) := by omega
    have h1 : (j : Int) < (s.opn.length : Int) := by omega
    have zj : decide (j < s.opn.length) = true := decide_eq_true hjl
    have wj := wS (show j < 9223372036854775807 by omega)
    have hroom : (W.length + 1) * 2 ≤ room := by simp only [room]; omega
    have hWt : W.take W.length = W := List.take_length
    (repeat' with_reducible first |apply qA|apply qB|apply qC|apply qD|apply qE|apply qF|(apply qG;decide)|apply qH|apply qI|apply qJ|apply qK|((first|apply qL|apply qM|apply qN|apply qO|((first|apply qP|apply qQ);decide +kernel));(conv=>lhs;simp only[go_sem, ibin, ishift, hg, hjl, cPc, h0, h1, zj, wj, hroom, hWt, Nat.le_refl])<;>rfl)|((first|apply qR|apply qS);(conv=>lhs;simp only[go_sem])<;>rfl;rfl)|((first|apply qT|apply qU);(conv=>lhs;simp only[go_sem])<;>rfl;rfl)|apply qV|apply qW|apply qX|apply qY|apply qZ)
    refine ⟨[0, 1, 5], by decide, rfl, ?_⟩
    rw [show W.map cU ++ [[PV.i .u16 x.seq]] = (W ++ [x.seq]).map cU by rw [List.map_append]; rfl, show W.length + 1 = (W ++ [x.seq]).length by simp]
    exact ⟨s.opn.length - (j + 1), _, _, by omega, ⟨j + 1, W ++ [x.seq], by omega, by rw [hW, htk, List.map_append]; rfl, by simp [hWl], rfl, rfl⟩, rfl, (by first | rfl | ((conv => lhs; simp only [go_sem, ibin, ishift]) <;> rfl))⟩
  have hje : j = s.opn.length := by omega
  have zj : decide (j < s.opn.length) = false := decide_eq_false hjt
  rw [hje, List.take_length] at hW
  subst hW
  (repeat' with_reducible first |apply qA|apply qB|apply qC|apply qD|apply qE|apply qF|(apply qG;decide)|apply qH|apply qI|apply qJ|apply qK|((first|apply qL|apply qM|apply qN|apply qO|((first|apply qP|apply qQ);decide +kernel));(conv=>lhs;simp only[go_sem, ibin, ishift, zj])<;>rfl)|((first|apply qR|apply qS);(conv=>lhs;simp only[go_sem])<;>rfl;rfl)|((first|apply qT|apply qU);(conv=>lhs;simp only[go_sem])<;>rfl;rfl)|apply qV|apply qW|apply qX|apply qY|apply qZ)
  refine ⟨by first | exact .inr rfl | exact .inl rfl, _, _, (by (conv => lhs; simp only [go_sem, ibin, ishift]) <;> with_reducible rfl), (by (conv => lhs; simp only [go_sem, ibin, ishift]) <;> with_reducible rfl), ?_⟩
  refine ⟨[0, 1, 2], by decide, rfl, ?_⟩
  exact ⟨rfl, rfl⟩
theorem clone8_spec (c : TabS T) (l : List UInt8) (hl : l.length ≤ 1000000) : Ret2 T 0 i_slices_Clone_byte_byte [.fz 1 (l.map c8)] [] (fun v h' => v = .fz 1 (l.map c8) ∧ h' = []) := by
  refine Ret2_fnv c.clone rfl rfl ?_
  cases l with
  | nil =>
    (repeat' with_reducible first |apply qA|apply qB|apply qC|apply qD|apply qE|apply qF|(apply qG;decide)|apply qH|apply qI|apply qJ|apply qK|((first|apply qL|apply qM|apply qN|apply qO|((first|apply qP|apply qQ);decide +kernel));(conv=>lhs;simp only[go_sem, ibin, ishift])<;>rfl)|((first|apply qR|apply qS);(conv=>lhs;simp only[go_sem])<;>rfl;rfl)|((first|apply qT|apply qU);(conv=>lhs;simp only[go_sem])<;>rfl;rfl)|apply qV|apply qW|apply qX|apply qY|apply qZ)
    refine W2_eqn (by decide) rfl ?_
    intro b
    simp only [List.map_cons, List.map_nil, eg, Nat.reduceEqDiff, if_true, if_false, reduceIte]
    cases b with
    | true =>
      (repeat' with_reducible first |apply qA|apply qB|apply qC|apply qD|apply qE|apply qF|(apply qG;decide)|apply qH|apply qI|apply qJ|apply qK|apply qX|((first|apply qR|apply qS);(conv=>lhs;simp only[go_sem])<;>rfl;rfl)|((first|apply qT|apply qU);(conv=>lhs;simp only[go_sem])<;>rfl;rfl)|apply qZ)
      (with_reducible first | apply W2_sra | apply W2_runa); ((conv => lhs; simp only [go_sem, ibin, ishift]) <;> with_reducible rfl)
      refine W2.weak (Wk.nilf 2 1 rfl) ?_
      (repeat' with_reducible first |apply qA|apply qB|apply qC|apply qD|apply qE|apply qF|(apply qG;decide)|apply qH|apply qI|apply qJ|apply qK|((first|apply qL|apply qM|apply qN|apply qO|((first|apply qP|apply qQ);decide +kernel));(conv=>lhs;simp only[go_sem, ibin, ishift])<;>rfl)|((first|apply qR|apply qS);(conv=>lhs;simp only[go_sem])<;>rfl;rfl)|((first|apply qT|apply qU);(conv=>lhs;simp only[go_sem])<;>rfl;rfl)|apply qV|apply qW|apply qX|apply qY|apply qZ)
      refine ⟨by first | exact .inr rfl | exact .inl rfl, _, _, (by (conv => lhs; simp only [go_sem, ibin, ishift]) <;> with_reducible rfl), (by (conv => lhs; simp only [go_sem, ibin, ishift]) <;> with_reducible rfl), ?_⟩
      refine ⟨[], by decide, rfl, ?_⟩
      exact ⟨rfl, rfl⟩
    | false =>
      have h16 : 0 ≤ room := Nat.zero_le _
      (repeat' with_reducible first |apply qA|apply qB|apply qC|apply qD|apply qE|apply qF|(apply qG;decide)|apply qH|apply qI|apply qJ|apply qK|apply qX|((first|apply qR|apply qS);(conv=>lhs;simp only[go_sem])<;>rfl;rfl)|((first|apply qT|apply qU);(conv=>lhs;simp only[go_sem])<;>rfl;rfl)|apply qZ)
      (with_reducible first | apply W2_sra | apply W2_runa); ((conv => lhs; simp only [go_sem, ibin, ishift, h16]) <;> with_reducible rfl)
      refine W2.wfrz 1 rfl (by (conv => lhs; simp only [go_sem, ibin, ishift]) <;> with_reducible rfl) (by (conv => lhs; simp only [go_sem, ibin, ishift]) <;> with_reducible rfl) ?_
      (repeat' with_reducible first |apply qA|apply qB|apply qC|apply qD|apply qE|apply qF|(apply qG;decide)|apply qH|apply qI|apply qJ|apply qK|((first|apply qL|apply qM|apply qN|apply qO|((first|apply qP|apply qQ);decide +kernel));(conv=>lhs;simp only[go_sem, ibin, ishift])<;>rfl)|((first|apply qR|apply qS);(conv=>lhs;simp only[go_sem])<;>rfl;rfl)|((first|apply qT|apply qU);(conv=>lhs;simp only[go_sem])<;>rfl;rfl)|apply qV|apply qW|apply qX|apply qY|apply qZ)
      refine ⟨by first | exact .inr rfl | exact .inl rfl, _, _, (by (conv => lhs; simp only [go_sem, ibin, ishift]) <;> with_reducible rfl), (by (conv => lhs; simp only [go_sem, ibin, ishift]) <;> with_reducible rfl), ?_⟩
      refine ⟨[], by decide, rfl, ?_⟩
      exact ⟨rfl, rfl⟩
  | cons x l =>
    have hroom1 : l.length + 1 ≤ room := by simp only [room, List.length_cons] at *; omega
    have hroom : (0 + (x :: l).length) * 1 ≤ room := by simp only [List.length_cons]; omega
    have hroom2 : (0 + (l.length + 1)) * 1 ≤ room := by omega
    ((repeat' with_reducible first |apply qA|apply qB|apply qC|apply qD|apply qE|apply qF|(apply qG;decide)|apply qH|apply qI|apply qJ|apply qK|apply qX|((first|apply qR|apply qS);(conv=>lhs;simp only[go_sem])<;>rfl;rfl)|((first|apply qT|apply qU);(conv=>lhs;simp only[go_sem])<;>rfl;rfl)|apply qZ|apply qY|apply qW);with_reducible((first|apply qL|apply qM|apply qN|apply qO|((first|apply qP|apply qQ);decide +kernel));(conv=>lhs;simp only[go_sem, ibin, ishift])<;>rfl))
    ((repeat' with_reducible first |apply qA|apply qB|apply qC|apply qD|apply qE|apply qF|(apply qG;decide)|apply qH|apply qI|apply qJ|apply qK|apply qX|((first|apply qR|apply qS);(conv=>lhs;simp only[go_sem])<;>rfl;rfl)|((first|apply qT|apply qU);(conv=>lhs;simp only[go_sem])<;>rfl;rfl)|apply qZ|apply qY|apply qW);with_reducible((first|apply qL|apply qM|apply qN|apply qO|((first|apply qP|apply qQ);decide +kernel));(conv=>lhs;simp only[go_sem, ibin, ishift])<;>rfl))
    (repeat' with_reducible first |apply qA|apply qB|apply qC|apply qD|apply qE|apply qF|(apply qG;decide)|apply qH|apply qI|apply qJ|apply qK|apply qX|((first|apply qR|apply qS);(conv=>lhs;simp only[go_sem])<;>rfl;rfl)|((first|apply qT|apply qU);(conv=>lhs;simp only[go_sem])<;>rfl;rfl)|apply qZ)
    (with_reducible first | apply W2_sra | apply W2_runa); ((conv => lhs; simp only [go_sem, ibin, ishift, hroom, hroom1, hroom2]) <;> with_reducible rfl)
    refine W2.wfrz 1 rfl (by (conv => lhs; simp only [go_sem, ibin, ishift]) <;> with_reducible rfl) (by (conv => lhs; simp only [go_sem, ibin, ishift]) <;> with_reducible rfl) ?_
    (repeat' with_reducible first |apply qA|apply qB|apply qC|apply qD|apply qE|apply qF|(apply qG;decide)|apply qH|apply qI|apply qJ|apply qK|((first|apply qL|apply qM|apply qN|apply qO|((first|apply qP|apply qQ);decide +kernel));(conv=>lhs;simp only[go_sem, ibin, ishift])<;>rfl)|((first|apply qR|apply qS);(conv=>lhs;simp only[go_sem])<;>rfl;rfl)|((first|apply qT|apply qU);(conv=>lhs;simp only[go_sem])<;>rfl;rfl)|apply qV|apply qW|apply qX|apply qY|apply qZ)
    refine ⟨by first | exact .inr rfl | exact .inl rfl, _, _, (by (conv => lhs; simp only [go_sem, ibin, ishift]) <;> with_reducible rfl), (by (conv => lhs; simp only [go_sem, ibin, ishift]) <;> with_reducible rfl), ?_⟩
    refine ⟨[], by decide, rfl, ?_⟩
    exact ⟨rfl, rfl⟩
def Sn.full (s : Sn) : Bool := match s.opn with | [] => false | x :: _ => decide (dist x.seq s.next ≥ s.win)
def Sn.put (s : Sn) (d : List UInt8) : Sn × Int × Int :=
  if s.dead = true then (s, 0, 190) else if d.length > 256 then (s, 0, 3) else if s.full = true then (s, 0, 5) else (⟨s.win, s.pau, s.tim, IntKind.u16.wrap (s.next + 1), s.opn ++ [⟨s.next, d, 0, 0⟩], s.dead⟩, IntKind.u16.wrap (IntKind.u16.wrap (s.next + 1) - 1), 0)
theorem put_spec0 (c : TabS T) (s : Sn) (hl : s.opn.length ≤ 100000) (d : List UInt8) : Ret2 T 1 i_retry_Sender_Put [.ptr 0 0, .fz 1 (d.map c8)] s.h (fun v h' => v = .tup [.i .u16 (s.put d).2.1, .i .i64 (s.put d).2.2] ∧ h' = (s.put d).1.h) := by
  refine Ret2_fnv c.put rfl rfl ?_
  unfold Sn.h Sn.o Sn.put
  cases hd : s.dead with
  | true =>
    rw [if_pos rfl]
    (repeat' with_reducible first |apply qA|apply qB|apply qC|apply qD|apply qE|apply qF|(apply qG;decide)|apply qH|apply qI|apply qJ|apply qK|((first|apply qL|apply qM|apply qN|apply qO|((first|apply qP|apply qQ);decide +kernel));(conv=>lhs;simp only[go_sem, ibin, ishift])<;>rfl)|((first|apply qR|apply qS);(conv=>lhs;simp only[go_sem])<;>rfl;rfl)|((first|apply qT|apply qU);(conv=>lhs;simp only[go_sem])<;>rfl;rfl)|apply qV|apply qW|apply qX|apply qY|apply qZ)
    refine ⟨by first | exact .inr rfl | exact .inl rfl, _, _, (by (conv => lhs; simp only [go_sem, ibin, ishift]) <;> with_reducible rfl), (by (conv => lhs; simp only [go_sem, ibin, ishift]) <;> with_reducible rfl), ?_⟩
    refine ⟨[0, 1], by decide, rfl, ?_⟩
    exact ⟨rfl, (by first | rfl | (simp only [go_sem, Sn.h, Sn.o, hd]; done) | (simp only [go_sem, Sn.h, Sn.o, hd] <;> rfl))⟩
  | false =>
  rw [if_neg (by decide)]
  by_cases h1 : d.length > 256
  · have z1 : decide ((d.length : Int) > 256) = true := decide_eq_true (by omega)
    rw [if_pos h1]
    (repeat' with_reducible first |apply qA|apply qB|apply qC|apply qD|apply qE|apply qF|(apply qG;decide)|apply qH|apply qI|apply qJ|apply qK|((first|apply qL|apply qM|apply qN|apply qO|((first|apply qP|apply qQ);decide +kernel));(conv=>lhs;simp only[go_sem, ibin, ishift, z1])<;>rfl)|((first|apply qR|apply qS);(conv=>lhs;simp only[go_sem])<;>rfl;rfl)|((first|apply qT|apply qU);(conv=>lhs;simp only[go_sem])<;>rfl;rfl)|apply qV|apply qW|apply qX|apply qY|apply qZ)
    refine ⟨by first | exact .inr rfl | exact .inl rfl, _, _, (by (conv => lhs; simp only [go_sem, ibin, ishift]) <;> with_reducible rfl), (by (conv => lhs; simp only [go_sem, ibin, ishift]) <;> with_reducible rfl), ?_⟩
    refine ⟨[0, 1], by decide, rfl, ?_⟩
    exact ⟨rfl, (by first | rfl | (simp only [go_sem, Sn.h, Sn.o, hd]; done) | (simp only [go_sem, Sn.h, Sn.o, hd] <;> rfl))⟩
  have z1 : decide ((d.length : Int) > 256) = false := decide_eq_false (by omega)
  rw [if_neg h1]
  have hfull : (s.opn.length = 0 ∧ s.full = false) ∨ ∃ x, 0 < s.opn.length ∧ s.opn[0]? = some x ∧ s.full = decide (dist x.seq s.next ≥ s.win) := by
    unfold Sn.full
    cases ho : s.opn with
    | nil => exact .inl ⟨rfl, rfl⟩
    | cons x r => exact .inr ⟨x, by simp, rfl, rfl⟩
  (repeat' with_reducible first |apply qA|apply qB|apply qC|apply qD|apply qE|apply qF|(apply qG;decide)|apply qH|apply qI|apply qJ|apply qK|((first|apply qL|apply qM|apply qN|apply qO|((first|apply qP|apply qQ);decide +kernel));(conv=>lhs;simp only[go_sem, ibin, ishift, z1])<;>rfl)|((first|apply qR|apply qS);(conv=>lhs;simp only[go_sem])<;>rfl;rfl)|((first|apply qT|apply qU);(conv=>lhs;simp only[go_sem])<;>rfl;rfl)|apply qV|apply qW|apply qX|apply qY|apply qZ)
  (repeat' with_reducible first |apply qA|apply qB|apply qC|apply qD|apply qE|apply qF|(apply qG;decide)|apply qH|apply qI|apply qJ|apply qK|apply qX|((first|apply qR|apply qS);(conv=>lhs;simp only[go_sem])<;>rfl;rfl)|((first|apply qT|apply qU);(conv=>lhs;simp only[go_sem])<;>rfl;rfl)|apply qZ|apply qY|apply qW)
  rcases hfull with ⟨hl0, hf⟩ | ⟨x, hl0, hg, hf⟩
  case' inl =>
    have z2 : decide (s.opn.length > 0) = false := decide_eq_false (by omega)
    have z2i : decide ((s.opn.length : Int) > 0) = false := decide_eq_false (by omega)
    have i1 : ¬((0 : Int) < (s.opn.length : Int)) := by omega
    rw [hf, if_neg (by decide)]
    (with_reducible first | apply W2_sregH [0] [false, false, false, false, false, false, false, false, false, false, false, false, false, false, false, false, false, false, false, false, false, false, true, false] | apply W2_regH [0] [false, false, false, false, false, false, false, false, false, false, false, false, false, false, false, false, false, false, false, false, false, false, true, false])
    · decide
    · decide
    · rfl
    ((conv => lhs; simp only [go_sem, ibin, ishift, z2, z2i, i1]) <;> with_reducible rfl)
    refine EH_go ?_
  case' inr =>
    have z2 : decide (s.opn.length > 0) = true := decide_eq_true hl0
    have z2i : decide ((s.opn.length : Int) > 0) = true := decide_eq_true (by omega)
    have i1 : (0 : Int) < (s.opn.length : Int) := by omega
    (with_reducible first | apply W2_sregH [0] [false, false, false, false, false, false, false, false, false, false, false, false, false, false, false, false, false, false, false, false, false, false, true, false] | apply W2_regH [0] [false, false, false, false, false, false, false, false, false, false, false, false, false, false, false, false, false, false, false, false, false, false, true, false])
    · decide
    · decide
    · rfl
    ((conv => lhs; simp only [go_sem, ibin, ishift, z2, z2i, hg, hl0, i1, cPc]) <;> with_reducible rfl)
    refine EH_pure (dist_spec c x.seq s.next) rfl ?_
    rintro v h' ⟨rfl, rfl⟩
    by_cases hff : s.full = true
    · rw [hff] at hf
      rw [if_pos hff]
      (with_reducible apply WOH_go (by decide); ((conv => lhs; simp only [go_sem, ibin, ishift, ← hf]) <;> with_reducible rfl))
      refine EH_go ?_
      (repeat' with_reducible first |apply qA|apply qB|apply qC|apply qD|apply qE|apply qF|(apply qG;decide)|apply qH|apply qI|apply qJ|apply qK|((first|apply qL|apply qM|apply qN|apply qO|((first|apply qP|apply qQ);decide +kernel));(conv=>lhs;simp only[go_sem, ibin, ishift])<;>rfl)|((first|apply qR|apply qS);(conv=>lhs;simp only[go_sem])<;>rfl;rfl)|((first|apply qT|apply qU);(conv=>lhs;simp only[go_sem])<;>rfl;rfl)|apply qV|apply qW|apply qX|apply qY|apply qZ)
      refine ⟨by first | exact .inr rfl | exact .inl rfl, _, _, (by (conv => lhs; simp only [go_sem, ibin, ishift]) <;> with_reducible rfl), (by (conv => lhs; simp only [go_sem, ibin, ishift]) <;> with_reducible rfl), ?_⟩
      refine ⟨[0, 1], by decide, rfl, ?_⟩
      exact ⟨rfl, (by first | rfl | (simp only [go_sem, Sn.h, Sn.o, hd]; done) | (simp only [go_sem, Sn.h, Sn.o, hd] <;> rfl))⟩
    rw [if_neg hff]
    simp only [Bool.not_eq_true] at hff
    rw [hff] at hf
    (with_reducible apply WOH_go (by decide); ((conv => lhs; simp only [go_sem, ibin, ishift, ← hf]) <;> with_reducible rfl))
    refine EH_go ?_
  all_goals
    have hroom : (s.opn.length + 1) * 48 ≤ room := by simp only [room]; omega
    have htk : s.opn.take s.opn.length = s.opn := List.take_length
    (repeat' with_reducible first |apply qA|apply qB|apply qC|apply qD|apply qE|apply qF|(apply qG;decide)|apply qH|apply qI|apply qJ|apply qK|((first|apply qL|apply qM|apply qN|apply qO|((first|apply qP|apply qQ);decide +kernel));(conv=>lhs;simp only[go_sem, ibin, ishift])<;>rfl)|((first|apply qR|apply qS);(conv=>lhs;simp only[go_sem])<;>rfl;rfl)|((first|apply qT|apply qU);(conv=>lhs;simp only[go_sem])<;>rfl;rfl)|apply qV|apply qW|apply qX|apply qY|apply qZ)
    (repeat' with_reducible first |apply qA|apply qB|apply qC|apply qD|apply qE|apply qF|(apply qG;decide)|apply qH|apply qI|apply qJ|apply qK|apply qX|((first|apply qR|apply qS);(conv=>lhs;simp only[go_sem])<;>rfl;rfl)|((first|apply qT|apply qU);(conv=>lhs;simp only[go_sem])<;>rfl;rfl)|apply qZ|apply qY|apply qW)
    (with_reducible first | apply W2_sregH [0] [false, false, false, false, true, false, false, false, true, false, false, false, false, false] | apply W2_regH [0] [false, false, false, false, true, false, false, false, true, false, false, false, false, false])
    · decide
    · decide
    · rfl
    ((conv => lhs; simp only [go_sem, ibin, ishift]) <;> with_reducible rfl)
    refine EH_pure (clone8_spec c d (by omega)) rfl ?_
    rintro v h' ⟨rfl, rfl⟩
    (with_reducible apply WOH_go (by decide); ((conv => lhs; simp only [go_sem, ibin, ishift, hroom, htk, Nat.le_refl]) <;> with_reducible rfl))
    refine EH_go ?_
    (repeat' with_reducible first |apply qA|apply qB|apply qC|apply qD|apply qE|apply qF|(apply qG;decide)|apply qH|apply qI|apply qJ|apply qK|((first|apply qL|apply qM|apply qN|apply qO|((first|apply qP|apply qQ);decide +kernel));(conv=>lhs;simp only[go_sem, ibin, ishift])<;>rfl)|((first|apply qR|apply qS);(conv=>lhs;simp only[go_sem])<;>rfl;rfl)|((first|apply qT|apply qU);(conv=>lhs;simp only[go_sem])<;>rfl;rfl)|apply qV|apply qW|apply qX|apply qY|apply qZ)
    refine ⟨by first | exact .inr rfl | exact .inl rfl, _, _, (by (conv => lhs; simp only [go_sem, ibin, ishift]) <;> with_reducible rfl), (by (conv => lhs; simp only [go_sem, ibin, ishift]) <;> with_reducible rfl), ?_⟩
    refine ⟨[0, 3], by decide, rfl, ?_⟩
    refine ⟨rfl, ?_⟩
    simp only [List.map_append, List.length_append]
    exact (by first | rfl | ((conv => lhs; simp only [go_sem, ibin, ishift]) <;> rfl))
theorem put_spec (c : TabS T) (s : Sn) (hl : s.opn.length ≤ 100000) (d : List UInt8) (hdl : d.length ≤ 1000000) : Ret2 T 1 i_retry_Sender_Put [.ptr 0 0, .fz 1 (d.map c8)] s.h (fun v h' => v = .tup [.i .u16 (s.put d).2.1, .i .i64 (s.put d).2.2] ∧ h' = (s.put d).1.h) := put_spec0 c s hl d
end Go.Proofs.Ytadbipeachcekaa.Ab
