/- The look at the table: each function's abstract code is the program's. -/
import Derived.Test.YtankmcjfglbbiaaDoorMB
import Derived.Test.YtankmcjfglbbiaaDoorC06
import Derived.Test.YtankmcjfglbbiaaDoorProg
namespace Go.Proofs.YtankmcjfglbbiaaDoor.Ab
open Go
def lookN : List (Nat × Nat) → Nat → Option Nat
  | [], _ => none
  | (k, v) :: r, n => if Nat.beq k n then some v else lookN r n
def lookF : List (Nat × AFun) → Nat → Option AEnt
  | [], _ => none
  | (k, v) :: r, n => if Nat.beq k n then some (.fn v) else lookF r n
def lkL : List (Nat × Nat) := [(264, 4), (265, 3), (249, 13), (250, 14), (108, 12), (248, 8), (131, 15), (126, 11), (110, 16), (118, 10), (251, 9), (253, 23), (252, 24), (254, 18), (130, 22), (129, 21), (128, 20), (256, 29), (255, 28), (258, 32), (257, 26), (261, 31), (259, 33), (260, 34), (263, 37), (262, 36)]
def lk : Lk := lookN lkL
def tb : AT := lookF C06Tab
theorem mixed : Tryd.prog.follows .mixedOrders = true := by kernel_rfl
def okAll (P : Program) (l : Lk) (t : List (Nat × AFun)) : Bool := t.all fun p => chkF P l p.1 p.2
theorem tab_ok : okAll Tryd.prog lk C06Tab = true := by kernel_rfl
theorem lookF_ok {P : Program} {l : Lk} {t : List (Nat × AFun)} (h : okAll P l t = true) : TOk P l (lookF t) := by
  intro f
  induction t with
  | nil => exact trivial
  | cons p r ih =>
    obtain ⟨k, F⟩ := p
    simp only [okAll, List.all_cons, Bool.and_eq_true] at h
    simp only [lookF]
    by_cases hk : Nat.beq k f = true
    · rw [if_pos hk]
      rw [← Nat.eq_of_beq_eq_true hk]
      exact h.1
    · rw [if_neg hk]
      exact ih h.2
theorem tb_ok : TOk Tryd.prog lk tb := lookF_ok tab_ok
end Go.Proofs.YtankmcjfglbbiaaDoor.Ab
