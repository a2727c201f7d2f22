/- The look at the table: each function's abstract code is the program's. -/
import Derived.Test.YthnoccmngpoibaaMB
import Derived.Test.YthnoccmngpoibaaC16
import Derived.Test.YthnoccmngpoibaaProg
namespace Go.Proofs.Ythnoccmngpoibaa.Ab
open Go
def lookN : List (Nat × Nat) → Nat → Option Nat
  | [], _ => none
  | (k, v) :: r, n => if Nat.beq k n then some v else lookN r n
def lookF : List (Nat × AFun) → Nat → Option AEnt
  | [], _ => none
  | (k, v) :: r, n => if Nat.beq k n then some (.fn v) else lookF r n
def lkL : List (Nat × Nat) := [(93, 3), (94, 4), (95, 5), (96, 6), (97, 7), (66, 10), (68, 12), (75, 19), (70, 14), (76, 20), (72, 16), (64, 8), (74, 18), (65, 9), (67, 11), (69, 13), (71, 15), (73, 17), (77, 22), (34, 21), (78, 23), (79, 24), (80, 28), (82, 30), (81, 27), (83, 31), (84, 26), (85, 25), (86, 29), (87, 33), (88, 32), (89, 34), (90, 36), (91, 35), (92, 37), (56, 38)]
def lk : Lk := lookN lkL
def tb : AT := lookF C16Tab
theorem mixed : Try.prog.follows .mixedOrders = true := by kernel_rfl
def okAll (P : Program) (l : Lk) (t : List (Nat × AFun)) : Bool := t.all fun p => chkF P l p.1 p.2
theorem tab_ok : okAll Try.prog lk C16Tab = true := by kernel_rfl
theorem lookF_ok {P : Program} {l : Lk} {t : List (Nat × AFun)} (h : okAll P l t = true) : TOk P l (lookF t) := by
  intro f
  induction t with
  | nil => exact trivial
  | cons p r ih =>
    obtain ⟨k, F⟩ := p
    simp only [okAll, List.all_cons, Bool.and_eq_true] at h
    simp only [lookF]
    by_cases hk : Nat.beq k f = true
    · rw [if_pos hk]
      rw [← Nat.eq_of_beq_eq_true hk]
      exact h.1
    · rw [if_neg hk]
      exact ih h.2
theorem tb_ok : TOk Try.prog lk tb := lookF_ok tab_ok
end Go.Proofs.Ythnoccmngpoibaa.Ab
