/- The look at the table: each function's abstract code is the program's. -/
import Derived.Test.YtadbipeachcekaaMB
import Derived.Test.YtadbipeachcekaaC05
import Derived.Test.YtadbipeachcekaaProg
namespace Go.Proofs.Ytadbipeachcekaa.Ab
open Go
def lookN : List (Nat × Nat) → Nat → Option Nat
  | [], _ => none
  | (k, v) :: r, n => if Nat.beq k n then some v else lookN r n
def lookF : List (Nat × AFun) → Nat → Option AEnt
  | [], _ => none
  | (k, v) :: r, n => if Nat.beq k n then some (.fn v) else lookF r n
def lkL : List (Nat × Nat) := [(224, 9), (230, 20), (243, 3), (244, 4), (245, 5), (246, 6), (247, 7), (221, 15), (222, 13), (219, 11), (220, 12), (218, 10), (223, 38), (225, 14), (226, 16), (233, 23), (231, 21), (232, 22), (227, 17), (234, 24), (228, 18), (229, 19), (235, 32), (236, 33), (202, 31), (132, 30), (237, 29), (239, 36), (240, 35), (238, 34), (241, 40), (242, 39), (127, 37)]
def lk : Lk := lookN lkL
def tb : AT := lookF C05Tab
theorem mixed : Try.prog.follows .mixedOrders = true := by kernel_rfl
def okAll (P : Program) (l : Lk) (t : List (Nat × AFun)) : Bool := t.all fun p => chkF P l p.1 p.2
theorem tab_ok : okAll Try.prog lk C05Tab = true := by kernel_rfl
theorem lookF_ok {P : Program} {l : Lk} {t : List (Nat × AFun)} (h : okAll P l t = true) : TOk P l (lookF t) := by
  intro f
  induction t with
  | nil => exact trivial
  | cons p r ih =>
    obtain ⟨k, F⟩ := p
    simp only [okAll, List.all_cons, Bool.and_eq_true] at h
    simp only [lookF]
    by_cases hk : Nat.beq k f = true
    · rw [if_pos hk]
      rw [← Nat.eq_of_beq_eq_true hk]
      exact h.1
    · rw [if_neg hk]
      exact ih h.2
theorem tb_ok : TOk Try.prog lk tb := lookF_ok tab_ok
end Go.Proofs.Ytadbipeachcekaa.Ab
