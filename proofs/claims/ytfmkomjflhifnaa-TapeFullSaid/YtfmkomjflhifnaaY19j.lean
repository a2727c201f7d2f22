/- Chapter 19: the tape: units of work. -/
import Derived.Test.YtfmkomjflhifnaaY19i
namespace Go.Proofs.Ytfmkomjflhifnaa.Ab
open Go
set_option linter.unusedVariables false
set_option linter.unusedSimpArgs false
variable {T : AT}
structure Tp where
  a : List UInt8
  b : List UInt8
  c : Bool
  armed : Bool
  bud : Int
  dead : Bool
def ci (c : Bool) : Int := match c with | true => 1 | false => 0
def Tp.o (p : Tp) (i j : Nat) : Option B2 := some (.obj [.sl 1 i 0 p.a.length none, .sl 1 j 0 p.b.length none, .i .i64 (ci p.c), .b p.armed, .i .i64 p.bud, .b p.dead])
def Tp.h (p : Tp) : SH := [p.o 1 2, some (.arr 1 (p.a.map c8)), some (.arr 1 (p.b.map c8))]
structure TabT (T : AT) : Prop extends TabR T where
  new : T i_tape_New = some (.fn c_tape_New)
  arm : T i_tape_Tape_Arm = some (.fn c_tape_Tape_Arm)
  unit : T i_tape_Tape_unit = some (.fn c_tape_Tape_unit)
  put : T i_tape_Tape_put = some (.fn c_tape_Tape_put)
  put1 : T i_tape_Tape_put_1 = some (.fn c_tape_Tape_put_1)
  cut : T i_tape_Tape_cut = some (.fn c_tape_Tape_cut)
  cut1 : T i_tape_Tape_cut_1 = some (.fn c_tape_Tape_cut_1)
  comp1 : T i_tape_Tape_Compact_1 = some (.fn c_tape_Tape_Compact_1)
  good : T i_tape_Tape_good = some (.fn c_tape_Tape_good)
  append : T i_tape_Tape_Append = some (.fn c_tape_Tape_Append)
  compact : T i_tape_Tape_Compact = some (.fn c_tape_Tape_Compact)
  repair : T i_tape_Tape_Repair = some (.fn c_tape_Tape_Repair)
  crash : T i_tape_Tape_Crash = some (.fn c_tape_Tape_Crash)
  read_ : T i_tape_Tape_Read = some (.fn c_tape_Tape_Read)
  size : T i_tape_Tape_Size = some (.fn c_tape_Tape_Size)
  state : T i_tape_Tape_state = some (.fn c_tape_Tape_state)
  clone : T i_slices_Clone_byte_byte = some (.fn c_slices_Clone_byte_byte)
def Tp.new : Tp := ⟨[], [], false, false, 0, false⟩
theorem new_spec (c : TabT T) : Ret2 T 0 i_tape_New [] [] (fun v h' => v = .ptr 0 0 ∧ h' = Tp.new.h) := by
  refine Ret2_fnv c.new rfl rfl ?_
  ((repeat' with_reducible first |apply qA|apply qB|apply qC|apply qD|apply qE|apply qF|(apply qG;decide)|apply qH|apply qI|apply qJ|apply qK|apply qX|((first|apply qR|apply qS);(conv=>lhs;simp only[go_sem])<;>rfl;rfl)|((first|apply qT|apply qU);(conv=>lhs;simp only[go_sem])<;>rfl;rfl)|apply qZ|apply qY|apply qW);with_reducible((first|apply qL|apply qM|apply qN|apply qO|((first|apply qP|apply qQ);decide +kernel));(conv=>lhs;simp only[go_sem, ibin, ishift])<;>rfl))
  ((repeat' with_reducible first |apply qA|apply qB|apply qC|apply qD|apply qE|apply qF|(apply qG;decide)|apply qH|apply qI|apply qJ|apply qK|apply qX|((first|apply qR|apply qS);(conv=>lhs;simp only[go_sem])<;>rfl;rfl)|((first|apply qT|apply qU);(conv=>lhs;simp only[go_sem])<;>rfl;rfl)|apply qZ|apply qY|apply qW);with_reducible((first|apply qL|apply qM|apply qN|apply qO|((first|apply qP|apply qQ);decide +kernel));(conv=>lhs;simp only[go_sem, ibin, ishift])<;>rfl))
  refine W2.weak (Wk.nilc 0 0 1 rfl rfl) ?_
  refine W2.weak (Wk.nilc 0 1 1 rfl rfl) ?_
  (repeat' with_reducible first |apply qA|apply qB|apply qC|apply qD|apply qE|apply qF|(apply qG;decide)|apply qH|apply qI|apply qJ|apply qK|((first|apply qL|apply qM|apply qN|apply qO|((first|apply qP|apply qQ);decide +kernel));(conv=>lhs;simp only[go_sem, ibin, ishift])<;>rfl)|((first|apply qR|apply qS);(conv=>lhs;simp only[go_sem])<;>rfl;rfl)|((first|apply qT|apply qU);(conv=>lhs;simp only[go_sem])<;>rfl;rfl)|apply qV|apply qW|apply qX|apply qY|apply qZ)
  refine ⟨by first | exact .inr rfl | exact .inl rfl, _, _, (by (conv => lhs; simp only [go_sem, ibin, ishift]) <;> with_reducible rfl), (by (conv => lhs; simp only [go_sem, ibin, ishift]) <;> with_reducible rfl), ?_⟩
  refine ⟨[0, 1, 2], by decide, rfl, ?_⟩
  exact ⟨rfl, rfl⟩
def Tp.arm (p : Tp) (n : Int) : Tp × Int :=
  if p.dead = true then (p, 190) else if n < 0 ∨ n > 1099511627776 then (p, 1) else (⟨p.a, p.b, p.c, true, n, p.dead⟩, 0)
theorem arm_spec (c : TabT T) (p : Tp) (n : Int) : Ret2 T 3 i_tape_Tape_Arm [.ptr 0 0, .i .i64 n] p.h (fun v h' => v = .i .i64 (p.arm n).2 ∧ h' = (p.arm n).1.h) := by
  refine Ret2_fnv c.arm rfl rfl ?_
  obtain ⟨a, b, cc, armed, bud, dead⟩ := p
  unfold Tp.h Tp.o Tp.arm
  simp only
  cases dead with
  | true =>
    (repeat' with_reducible first |apply qA|apply qB|apply qC|apply qD|apply qE|apply qF|(apply qG;decide)|apply qH|apply qI|apply qJ|apply qK|((first|apply qL|apply qM|apply qN|apply qO|((first|apply qP|apply qQ);decide +kernel));(conv=>lhs;simp only[go_sem, ibin, ishift])<;>rfl)|((first|apply qR|apply qS);(conv=>lhs;simp only[go_sem])<;>rfl;rfl)|((first|apply qT|apply qU);(conv=>lhs;simp only[go_sem])<;>rfl;rfl)|apply qV|apply qW|apply qX|apply qY|apply qZ)
    refine ⟨by first | exact .inr rfl | exact .inl rfl, _, _, (by (conv => lhs; simp only [go_sem, ibin, ishift]) <;> with_reducible rfl), (by (conv => lhs; simp only [go_sem, ibin, ishift]) <;> with_reducible rfl), ?_⟩
    refine ⟨[0, 1, 2], by decide, rfl, ?_⟩
    exact ⟨rfl, rfl⟩
  | false =>
    rw [if_neg (by decide)]
    (repeat' with_reducible first |apply qA|apply qB|apply qC|apply qD|apply qE|apply qF|(apply qG;decide)|apply qH|apply qI|apply qJ|apply qK|((first|apply qL|apply qM|apply qN|apply qO|((first|apply qP|apply qQ);decide +kernel));(conv=>lhs;simp only[go_sem, ibin, ishift])<;>rfl)|((first|apply qR|apply qS);(conv=>lhs;simp only[go_sem])<;>rfl;rfl)|((first|apply qT|apply qU);(conv=>lhs;simp only[go_sem])<;>rfl;rfl)|apply qV|apply qW|apply qX|apply qY|apply qZ)
    (((first | with_reducible apply W2_sc | with_reducible apply W2_cond); ((conv => lhs; simp only [go_sem]) <;> with_reducible rfl)) <;> intro hx <;> (try rw [hx]) <;> simp only [Bool.or_eq_true, Bool.and_eq_true, decide_eq_true_eq, Bool.or_eq_false_iff, Bool.and_eq_false_iff, decide_eq_false_iff_not, Bool.not_eq_true', Bool.not_eq_false', bne_iff_ne, beq_iff_eq, not_or, not_and, Decidable.not_not, ne_eq, gt_iff_lt, ge_iff_le, Int.not_lt, Int.not_le] at hx)
    · rw [if_pos (by omega)]
      (repeat' with_reducible first |apply qA|apply qB|apply qC|apply qD|apply qE|apply qF|(apply qG;decide)|apply qH|apply qI|apply qJ|apply qK|((first|apply qL|apply qM|apply qN|apply qO|((first|apply qP|apply qQ);decide +kernel));(conv=>lhs;simp only[go_sem, ibin, ishift])<;>rfl)|((first|apply qR|apply qS);(conv=>lhs;simp only[go_sem])<;>rfl;rfl)|((first|apply qT|apply qU);(conv=>lhs;simp only[go_sem])<;>rfl;rfl)|apply qV|apply qW|apply qX|apply qY|apply qZ)
      refine ⟨by first | exact .inr rfl | exact .inl rfl, _, _, (by (conv => lhs; simp only [go_sem, ibin, ishift]) <;> with_reducible rfl), (by (conv => lhs; simp only [go_sem, ibin, ishift]) <;> with_reducible rfl), ?_⟩
      refine ⟨[0, 1, 2], by decide, rfl, ?_⟩
      exact ⟨rfl, rfl⟩
    · rw [if_neg (by omega)]
      (repeat' with_reducible first |apply qA|apply qB|apply qC|apply qD|apply qE|apply qF|(apply qG;decide)|apply qH|apply qI|apply qJ|apply qK|((first|apply qL|apply qM|apply qN|apply qO|((first|apply qP|apply qQ);decide +kernel));(conv=>lhs;simp only[go_sem, ibin, ishift])<;>rfl)|((first|apply qR|apply qS);(conv=>lhs;simp only[go_sem])<;>rfl;rfl)|((first|apply qT|apply qU);(conv=>lhs;simp only[go_sem])<;>rfl;rfl)|apply qV|apply qW|apply qX|apply qY|apply qZ)
      refine ⟨by first | exact .inr rfl | exact .inl rfl, _, _, (by (conv => lhs; simp only [go_sem, ibin, ishift]) <;> with_reducible rfl), (by (conv => lhs; simp only [go_sem, ibin, ishift]) <;> with_reducible rfl), ?_⟩
      refine ⟨[0, 1, 2], by decide, rfl, ?_⟩
      exact ⟨rfl, rfl⟩
/-- a unit of work -/
def Tp.unit (p : Tp) (f : Tp → Tp) : Tp :=
  if p.dead = true then p else if p.armed = true ∧ p.bud = 0 then ⟨p.a, p.b, p.c, p.armed, p.bud, true⟩ else f ⟨p.a, p.b, p.c, p.armed, IntKind.i64.wrap (p.bud - 1), false⟩
def Tp.area (p : Tp) (i : Bool) : List UInt8 := match i with | true => p.b | false => p.a
def Tp.put1 (i : Bool) (l : List UInt8) (p : Tp) : Tp := match i with | true => ⟨p.a, l, p.c, p.armed, p.bud, p.dead⟩ | false => ⟨l, p.b, p.c, p.armed, p.bud, p.dead⟩
/-- what closures share: the tape, boxes -/
def boxT : Option B2 := some (.obj [.ptr 0 0])
def boxI (i : Bool) : Option B2 := some (.obj [.i .i64 (ci i)])
def box8 (x : UInt8) : Option B2 := some (.obj [.i .u8 x.toNat])
def boxN (n : Nat) : Option B2 := some (.obj [.i .i64 n])
def Tp.h3 (p : Tp) (x y : Option B2) : SH := [p.o 4 5, boxT, x, y, some (.arr 1 (p.a.map c8)), some (.arr 1 (p.b.map c8))]
theorem put1_spec (c : TabT T) (p : Tp) (i : Bool) (x : UInt8) (hl : (p.area i).length ≤ 1000000) : Ret2 T 4 i_tape_Tape_put_1 [.ptr 1 0, .ptr 2 0, .ptr 3 0] (p.h3 (boxI i) (box8 x)) (fun v h' => v = .tup [] ∧ h' = (p.put1 i (p.area i ++ [x])).h3 (boxI i) (box8 x)) := by
  refine Ret2_fnv c.put1 rfl rfl ?_
  obtain ⟨a, b, cc, armed, bud, dead⟩ := p
  cases i with
  | false =>
    unfold Tp.h3 Tp.o boxI box8 boxT
    simp only [Tp.area] at hl
    have hroom : (a.length + 1) * 1 ≤ room := by simp only [room]; omega
    have hroom1 : a.length + 1 ≤ room := by simp only [room]; omega
    simp only [Tp.area, Tp.put1, ci]
    (repeat' with_reducible first |apply qA|apply qB|apply qC|apply qD|apply qE|apply qF|(apply qG;decide)|apply qH|apply qI|apply qJ|apply qK|apply qX|((first|apply qR|apply qS);(conv=>lhs;simp only[go_sem])<;>rfl;rfl)|((first|apply qT|apply qU);(conv=>lhs;simp only[go_sem])<;>rfl;rfl)|apply qZ|apply qY|apply qW)
    (with_reducible first | apply W2_sregH [0, 1, 2, 3] [true, true, true, true, false, false, false, true, false, false, false, false, false, false, false] | apply W2_regH [0, 1, 2, 3] [true, true, true, true, false, false, false, true, false, false, false, false, false, false, false])
    · decide
    · decide
    · rfl
    ((conv => lhs; simp only [go_sem, ibin, ishift, hroom, hroom1, Nat.le_refl, List.take_length]) <;> with_reducible rfl)
    refine EH_go ?_
    (repeat' with_reducible first |apply qA|apply qB|apply qC|apply qD|apply qE|apply qF|(apply qG;decide)|apply qH|apply qI|apply qJ|apply qK|((first|apply qL|apply qM|apply qN|apply qO|((first|apply qP|apply qQ);decide +kernel));(conv=>lhs;simp only[go_sem, ibin, ishift])<;>rfl)|((first|apply qR|apply qS);(conv=>lhs;simp only[go_sem])<;>rfl;rfl)|((first|apply qT|apply qU);(conv=>lhs;simp only[go_sem])<;>rfl;rfl)|apply qV|apply qW|apply qX|apply qY|apply qZ)
    show (_ ∨ _) ∧ _
    refine ⟨by first | exact .inr rfl | exact .inl rfl, _, _, (by (conv => lhs; simp only [go_sem, ibin, ishift]) <;> with_reducible rfl), (by (conv => lhs; simp only [go_sem, ibin, ishift]) <;> with_reducible rfl), ?_⟩
    refine ⟨[0, 1, 2, 3, 7, 5], by decide, rfl, ?_⟩
    refine ⟨rfl, ?_⟩
    simp only [List.map_append, List.length_append]
    exact (by first | rfl | ((conv => lhs; simp only [go_sem, ibin, ishift]) <;> rfl))
  | true =>
    unfold Tp.h3 Tp.o boxI box8 boxT
    simp only [Tp.area] at hl
    have hroom : (b.length + 1) * 1 ≤ room := by simp only [room]; omega
    have hroom1 : b.length + 1 ≤ room := by simp only [room]; omega
    simp only [Tp.area, Tp.put1, ci]
    (repeat' with_reducible first |apply qA|apply qB|apply qC|apply qD|apply qE|apply qF|(apply qG;decide)|apply qH|apply qI|apply qJ|apply qK|apply qX|((first|apply qR|apply qS);(conv=>lhs;simp only[go_sem])<;>rfl;rfl)|((first|apply qT|apply qU);(conv=>lhs;simp only[go_sem])<;>rfl;rfl)|apply qZ|apply qY|apply qW)
    (with_reducible first | apply W2_sregH [0, 1, 2, 3] [true, true, true, true, false, false, false, true, false, false, false, false, false, false, false] | apply W2_regH [0, 1, 2, 3] [true, true, true, true, false, false, false, true, false, false, false, false, false, false, false])
    · decide
    · decide
    · rfl
    ((conv => lhs; simp only [go_sem, ibin, ishift, hroom, hroom1, Nat.le_refl, List.take_length]) <;> with_reducible rfl)
    refine EH_go ?_
    (repeat' with_reducible first |apply qA|apply qB|apply qC|apply qD|apply qE|apply qF|(apply qG;decide)|apply qH|apply qI|apply qJ|apply qK|((first|apply qL|apply qM|apply qN|apply qO|((first|apply qP|apply qQ);decide +kernel));(conv=>lhs;simp only[go_sem, ibin, ishift])<;>rfl)|((first|apply qR|apply qS);(conv=>lhs;simp only[go_sem])<;>rfl;rfl)|((first|apply qT|apply qU);(conv=>lhs;simp only[go_sem])<;>rfl;rfl)|apply qV|apply qW|apply qX|apply qY|apply qZ)
    show (_ ∨ _) ∧ _
    refine ⟨by first | exact .inr rfl | exact .inl rfl, _, _, (by (conv => lhs; simp only [go_sem, ibin, ishift]) <;> with_reducible rfl), (by (conv => lhs; simp only [go_sem, ibin, ishift]) <;> with_reducible rfl), ?_⟩
    refine ⟨[0, 1, 2, 3, 4, 7], by decide, rfl, ?_⟩
    refine ⟨rfl, ?_⟩
    simp only [List.map_append, List.length_append]
    exact (by first | rfl | ((conv => lhs; simp only [go_sem, ibin, ishift]) <;> rfl))
theorem cut1_spec (c : TabT T) (p : Tp) (i : Bool) (n : Nat) (hl : (p.area i).length ≤ 1000000) (hn : n ≤ (p.area i).length) : Ret2 T 4 i_tape_Tape_cut_1 [.ptr 1 0, .ptr 2 0, .ptr 3 0] (p.h3 (boxI i) (boxN n)) (fun v h' => v = .tup [] ∧ h' = (p.put1 i ((p.area i).take n)).h3 (boxI i) (boxN n)) := by
  refine Ret2_fnv c.cut1 rfl rfl ?_
  obtain ⟨a, b, cc, armed, bud, dead⟩ := p
  cases i with
  | false =>
    unfold Tp.h3 Tp.o boxI boxN boxT
    simp only [Tp.area] at hl hn
    have n0 : (0 : Int) ≤ (n : Int) := by omega
    have n1 : (n : Int) ≤ (a.length : Int) := by omega
    have hml : (a.take n).length = n := by rw [List.length_take]; omega
    simp only [Tp.area, Tp.put1, ci]
    refine W2.post (Q' := fun t e h => t = .nrm ∧ e = [] ∧ h = [some (.obj [.sl 1 4 0 n (some n), .sl 1 5 0 b.length none, .i .i64 (ci cc), .b armed, .i .i64 bud, .b dead]), some (.obj [.ptr 0 0]), some (.obj [.i .i64 0]), some (.obj [.i .i64 n]), some (.arr 1 (a.map c8)), some (.arr 1 (b.map c8))]) ?_ ?_
    · (repeat' with_reducible first |apply qA|apply qB|apply qC|apply qD|apply qE|apply qF|(apply qG;decide)|apply qH|apply qI|apply qJ|apply qK|((first|apply qL|apply qM|apply qN|apply qO|((first|apply qP|apply qQ);decide +kernel));(conv=>lhs;simp only[go_sem, ibin, ishift, hn, n0, n1, Nat.le_refl, Int.le_refl])<;>rfl)|((first|apply qR|apply qS);(conv=>lhs;simp only[go_sem])<;>rfl;rfl)|((first|apply qT|apply qU);(conv=>lhs;simp only[go_sem])<;>rfl;rfl)|apply qV|apply qW|apply qX|apply qY|apply qZ)
      exact ⟨rfl, rfl, (by first | rfl | ((conv => lhs; simp only [go_sem, ibin, ishift]) <;> rfl))⟩
    rintro t e h ⟨rfl, rfl, rfl⟩
    refine ⟨_, _, Wk.trans (Wk.capc 0 0 rfl rfl) (Wk.row 4 n rfl), ?_⟩
    show (_ ∨ _) ∧ _
    refine ⟨by first | exact .inr rfl | exact .inl rfl, _, _, (by (conv => lhs; simp only [go_sem, ibin, ishift]) <;> with_reducible rfl), (by (conv => lhs; simp only [go_sem, ibin, ishift]) <;> with_reducible rfl), ?_⟩
    refine ⟨[0, 1, 2, 3, 4, 5], by decide, rfl, ?_⟩
    rw [hml, List.map_take]
    exact ⟨rfl, (by first | rfl | ((conv => lhs; simp only [go_sem, ibin, ishift]) <;> rfl))⟩
  | true =>
    unfold Tp.h3 Tp.o boxI boxN boxT
    simp only [Tp.area] at hl hn
    have n0 : (0 : Int) ≤ (n : Int) := by omega
    have n1 : (n : Int) ≤ (b.length : Int) := by omega
    have hml : (b.take n).length = n := by rw [List.length_take]; omega
    simp only [Tp.area, Tp.put1, ci]
    refine W2.post (Q' := fun t e h => t = .nrm ∧ e = [] ∧ h = [some (.obj [.sl 1 4 0 a.length none, .sl 1 5 0 n (some n), .i .i64 (ci cc), .b armed, .i .i64 bud, .b dead]), some (.obj [.ptr 0 0]), some (.obj [.i .i64 1]), some (.obj [.i .i64 n]), some (.arr 1 (a.map c8)), some (.arr 1 (b.map c8))]) ?_ ?_
    · (repeat' with_reducible first |apply qA|apply qB|apply qC|apply qD|apply qE|apply qF|(apply qG;decide)|apply qH|apply qI|apply qJ|apply qK|((first|apply qL|apply qM|apply qN|apply qO|((first|apply qP|apply qQ);decide +kernel));(conv=>lhs;simp only[go_sem, ibin, ishift, hn, n0, n1, Nat.le_refl, Int.le_refl])<;>rfl)|((first|apply qR|apply qS);(conv=>lhs;simp only[go_sem])<;>rfl;rfl)|((first|apply qT|apply qU);(conv=>lhs;simp only[go_sem])<;>rfl;rfl)|apply qV|apply qW|apply qX|apply qY|apply qZ)
      exact ⟨rfl, rfl, (by first | rfl | ((conv => lhs; simp only [go_sem, ibin, ishift]) <;> rfl))⟩
    rintro t e h ⟨rfl, rfl, rfl⟩
    refine ⟨_, _, Wk.trans (Wk.capc 0 1 rfl rfl) (Wk.row 5 n rfl), ?_⟩
    show (_ ∨ _) ∧ _
    refine ⟨by first | exact .inr rfl | exact .inl rfl, _, _, (by (conv => lhs; simp only [go_sem, ibin, ishift]) <;> with_reducible rfl), (by (conv => lhs; simp only [go_sem, ibin, ishift]) <;> with_reducible rfl), ?_⟩
    refine ⟨[0, 1, 2, 3, 4, 5], by decide, rfl, ?_⟩
    rw [hml, List.map_take]
    exact ⟨rfl, (by first | rfl | ((conv => lhs; simp only [go_sem, ibin, ishift]) <;> rfl))⟩
theorem comp1_spec (c : TabT T) (p : Tp) (i : Bool) : Ret2 T 3 i_tape_Tape_Compact_1 [.ptr 2 0, .ptr 1 0] [p.o 3 4, boxT, boxI i, some (.arr 1 (p.a.map c8)), some (.arr 1 (p.b.map c8))] (fun v h' => v = .tup [] ∧ h' = [(Tp.mk p.a p.b i p.armed p.bud p.dead).o 3 4, boxT, boxI i, some (.arr 1 (p.a.map c8)), some (.arr 1 (p.b.map c8))]) := by
  refine Ret2_fnv c.comp1 rfl rfl ?_
  unfold Tp.o boxI boxT
  (repeat' with_reducible first |apply qA|apply qB|apply qC|apply qD|apply qE|apply qF|(apply qG;decide)|apply qH|apply qI|apply qJ|apply qK|((first|apply qL|apply qM|apply qN|apply qO|((first|apply qP|apply qQ);decide +kernel));(conv=>lhs;simp only[go_sem, ibin, ishift])<;>rfl)|((first|apply qR|apply qS);(conv=>lhs;simp only[go_sem])<;>rfl;rfl)|((first|apply qT|apply qU);(conv=>lhs;simp only[go_sem])<;>rfl;rfl)|apply qV|apply qW|apply qX|apply qY|apply qZ)
  show (_ ∨ _) ∧ _
  refine ⟨by first | exact .inr rfl | exact .inl rfl, _, _, (by (conv => lhs; simp only [go_sem, ibin, ishift]) <;> with_reducible rfl), (by (conv => lhs; simp only [go_sem, ibin, ishift]) <;> with_reducible rfl), ?_⟩
  refine ⟨[0, 1, 2, 3, 4], by decide, rfl, ?_⟩
  exact ⟨rfl, rfl⟩
end Go.Proofs.Ytfmkomjflhifnaa.Ab
