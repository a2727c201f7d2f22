/- Chapter 06: the library's strings.Index, Contains and Count at a text of one byte (the contracts are those that the kit's shelf lays for this program), as functions that the first machine is told. -/
import Derived.Test.YtankmcjfglbbiaaDoorL06
import Derived.Test.YtankmcjfglbbiaaDoorChecked
import Derived.Lib.Strings
import Derived.Lib.Slices
import Derived.Lib.Walk
import Derived.Lib.Bytealg
namespace Go.Proofs
set_option maxHeartbeats 2000000 in
set_option maxRecDepth 100000 in
theorem Tryd.x_IndexByte (s : ByteArray) (c : Int) (w : World) :
    Calls Tryd.prog 42 #[.string s, .int .u8 c] w fun e w' => e = .returned (.int .i64 (Lib.indexByte s.data.toList c.toNat.toUInt8)) ∧ w' = w := by
  go_enter Tryd.func42, Tryd.ntmps42
  go_wp2
  rw [run_callFunc_extern Tryd.func47 (by kernel_rfl) (by kernel_rfl) (by kernel_rfl) (e := Extern.BytealgIndexByte.indexByte) (by kernel_rfl), Lib.run_indexByteString]
  simp only [Result.andThen]
  rw [Oper.upon_value]
  go_wp2
  go_ret
  exact ⟨rfl, rfl⟩
set_option maxHeartbeats 2000000 in
set_option maxRecDepth 100000 in
theorem Tryd.x_IndexLite (s : ByteArray) (c : UInt8) (w : World) :
    Calls Tryd.prog 38 #[.string s, .string ⟨#[c]⟩] w fun e w' => e = .returned (.int .i64 (Lib.indexByte s.data.toList c)) ∧ w' = w := by
  go_enter Tryd.func38, Tryd.ntmps38
  go_wp2_with (go_at_call 42; refine (Tryd.x_IndexByte _ _ _).mono ?_; rintro e w' ⟨rfl, rfl⟩)
  · have h : ([c] == s.toList) = true := by assumption
    go_ret
    refine ⟨?_, rfl⟩
    have e : s.data.toList = [c] := by rw [← Lib.toList_data]; exact (beq_iff_eq.1 h).symm
    rw [e]
    simp [Lib.indexByte]
  · go_ret
    exact ⟨rfl, rfl⟩
set_option maxHeartbeats 2000000 in
theorem Tryd.x_Index (s : ByteArray) (c : UInt8) (w : World) :
    Calls Tryd.prog 33 #[.string s, .string ⟨#[c]⟩] w fun e w' => e = .returned (.int .i64 (Lib.indexByte s.data.toList c)) ∧ w' = w := by
  go_enter Tryd.func33, Tryd.ntmps33
  go_wp2_with (go_at_call 38; refine (Tryd.x_IndexLite _ _ _).mono ?_; rintro e w' ⟨rfl, rfl⟩)
  go_ret
  exact ⟨rfl, rfl⟩
set_option maxHeartbeats 2000000 in
theorem Tryd.x_Contains (s : ByteArray) (c : UInt8) (w : World) :
    Calls Tryd.prog 34 #[.string s, .string ⟨#[c]⟩] w fun e w' => e = .returned (.bool (decide (0 ≤ Lib.indexByte s.data.toList c))) ∧ w' = w := by
  go_enter Tryd.func34, Tryd.ntmps34
  go_wp2_with (go_at_call 33; refine (Tryd.x_Index _ _ _).mono ?_; rintro e w' ⟨rfl, rfl⟩)
  go_ret
  exact ⟨rfl, rfl⟩
set_option maxHeartbeats 2000000 in
set_option maxRecDepth 100000 in
theorem Tryd.x_Count (s : ByteArray) (c : UInt8) (w : World) :
    Calls Tryd.prog 37 #[.string s, .string ⟨#[c]⟩] w fun e w' => e = .returned (.int .i64 (Lib.countByte s.data.toList c)) ∧ w' = w := by
  go_enter Tryd.func37, Tryd.ntmps37
  go_wp2
  rw [run_callFunc_extern Tryd.func41 (by kernel_rfl) (by kernel_rfl) (by kernel_rfl) (e := Extern.BytealgCount.count) (by kernel_rfl), Lib.run_countString]
  simp only [Result.andThen]
  rw [Oper.upon_value]
  go_wp2
  go_ret
  exact ⟨rfl, rfl⟩
end Go.Proofs
namespace Go.Proofs.YtankmcjfglbbiaaDoor.Ab
open Go
/-- the place of a byte in a text; how many there are -/
def ixB : List UInt8 → UInt8 → Int
  | [], _ => -1
  | b :: l, c => if b == c then 0 else if ixB l c == -1 then -1 else ixB l c + 1
theorem ixB_eq : ∀ (l : List UInt8) (c : UInt8), Lib.indexByte l c = ixB l c
  | [], _ => rfl
  | b :: l, c => by rw [Lib.indexByte, ixB, ixB_eq l c]
def cntB (l : List UInt8) (c : UInt8) : Nat := l.count c
def sIndex : List AV → Option AV
  | [.s l, .s [c]] => some (.i .i64 (ixB l c))
  | _ => none
def sContains : List AV → Option AV
  | [.s l, .s [c]] => some (.b (decide (0 ≤ ixB l c)))
  | _ => none
def sCount : List AV → Option AV
  | [.s l, .s [c]] => some (.i .i64 (cntB l c))
  | _ => none
theorem two_texts {lk : Lk} {ρ : Rho} {l : List UInt8} {c : UInt8} {xs : Array Value} (h : F2 (VE lk ρ) [.s l, .s [c]] xs.toList) : ∃ a : ByteArray, a.data.toList = l ∧ xs = #[.string a, .string ⟨#[c]⟩] := by
  obtain ⟨x, r, h1, h2, h3⟩ := h.head
  obtain ⟨y, r2, h4, h5, h6⟩ := h3.head
  obtain ⟨a, ha, rfl⟩ := h2.s
  obtain ⟨b, hb, rfl⟩ := h5.s
  have hr : r2 = [] := by cases r2 with | nil => rfl | cons => exact h6.elim
  refine ⟨a, ha, ?_⟩
  have : b = ⟨#[c]⟩ := by
    obtain ⟨⟨d⟩⟩ := b
    simp only at hb
    subst hb; rfl
  subst this
  subst hr
  subst h4
  exact Array.ext' h1
theorem sIndex_ok : ∀ args v, sIndex args = some v → ∀ h, CallsOk Tryd.prog lk i_strings_Index args h v h := by
  intro args v hv h
  unfold sIndex at hv
  split at hv
  · rename_i l c
    cases hv
    refine ⟨33, Tryd.f33, rfl, Tryd.func33, by decide, rfl, fun ρ w xs r hf _ => ?_⟩
    obtain ⟨a, rfl, rfl⟩ := two_texts hf
    refine (Tryd.x_Index a c w).mono fun e w' ⟨he, hw⟩ => ?_
    subst he
    subst hw
    exact ⟨_, ρ, rfl, (by first | exact (VC.i .i64 (ixB a.data.toList c)).e | (rw [ixB_eq]; exact (VC.i .i64 (ixB a.data.toList c)).e)), r, Stp.refl _ _ _⟩
  · cases hv
theorem sContains_ok : ∀ args v, sContains args = some v → ∀ h, CallsOk Tryd.prog lk i_strings_Contains args h v h := by
  intro args v hv h
  unfold sContains at hv
  split at hv
  · rename_i l c
    cases hv
    refine ⟨34, Tryd.f34, rfl, Tryd.func34, by decide, rfl, fun ρ w xs r hf _ => ?_⟩
    obtain ⟨a, rfl, rfl⟩ := two_texts hf
    refine (Tryd.x_Contains a c w).mono fun e w' ⟨he, hw⟩ => ?_
    subst he
    subst hw
    exact ⟨_, ρ, rfl, (by first | exact (VC.b (decide (0 ≤ ixB a.data.toList c))).e | (rw [ixB_eq]; exact (VC.b (decide (0 ≤ ixB a.data.toList c))).e)), r, Stp.refl _ _ _⟩
  · cases hv
theorem sCount_ok : ∀ args v, sCount args = some v → ∀ h, CallsOk Tryd.prog lk i_strings_Count args h v h := by
  intro args v hv h
  unfold sCount at hv
  split at hv
  · rename_i l c
    cases hv
    refine ⟨37, Tryd.f37, rfl, Tryd.func37, by decide, rfl, fun ρ w xs r hf _ => ?_⟩
    obtain ⟨a, rfl, rfl⟩ := two_texts hf
    refine (Tryd.x_Count a c w).mono fun e w' ⟨he, hw⟩ => ?_
    subst he
    subst hw
    exact ⟨_, ρ, rfl, (by first | exact (VC.i .i64 (cntB a.data.toList c)).e | (rw [ixB_eq]; exact (VC.i .i64 (cntB a.data.toList c)).e)), r, Stp.refl _ _ _⟩
  · cases hv
/-- a table with one function told by what it gives -/
def toldS (T : AT) (f : Nat) (s : List AV → Option AV) : AT := fun g => if Nat.beq g f then some (.spec s) else T g
theorem withS_ok {P : Program} {lk : Lk} {T : AT} (hT : TOk P lk T) {f : Nat} {s : List AV → Option AV} (h : ∀ args v, s args = some v → ∀ h, CallsOk P lk f args h v h) : TOk P lk (toldS T f s) := by
  intro g
  unfold toldS
  by_cases hg : Nat.beq g f = true
  · rw [if_pos hg, Nat.eq_of_beq_eq_true hg]
    exact h
  · rw [if_neg hg]
    exact hT g
def tbS : AT := toldS (toldS (toldS tb i_strings_Index sIndex) i_strings_Contains sContains) i_strings_Count sCount
theorem tbS_ok : TOk Tryd.prog lk tbS := withS_ok (withS_ok (withS_ok tb_ok sIndex_ok) sContains_ok) sCount_ok
end Go.Proofs.YtankmcjfglbbiaaDoor.Ab
