/- The look at the table: each function's abstract code is the program's. -/
import Derived.Test.YtpblhjaghkkdhaaMB
import Derived.Test.YtpblhjaghkkdhaaC20
import Derived.Test.YtpblhjaghkkdhaaProg
namespace Go.Proofs.Ytpblhjaghkkdhaa.Ab
open Go
def lookN : List (Nat × Nat) → Nat → Option Nat
  | [], _ => none
  | (k, v) :: r, n => if Nat.beq k n then some v else lookN r n
def lookF : List (Nat × AFun) → Nat → Option AEnt
  | [], _ => none
  | (k, v) :: r, n => if Nat.beq k n then some (.fn v) else lookF r n
def lkL : List (Nat × Nat) := [(133, 3), (134, 4), (135, 5), (136, 6), (137, 7), (138, 8), (101, 12), (103, 14), (100, 11), (102, 13), (99, 10), (98, 9), (106, 17), (107, 18), (105, 16), (104, 15), (108, 19), (114, 25), (110, 21), (112, 23), (109, 20), (111, 22), (113, 24), (115, 26), (116, 29), (117, 30), (119, 28), (118, 27), (120, 31), (122, 34), (121, 33), (123, 35), (125, 37), (124, 36), (126, 32), (127, 40), (129, 39), (128, 38), (131, 42), (130, 41), (132, 43)]
def lk : Lk := lookN lkL
def tb : AT := lookF C20Tab
theorem mixed : Try.prog.follows .mixedOrders = true := by kernel_rfl
def okAll (P : Program) (l : Lk) (t : List (Nat × AFun)) : Bool := t.all fun p => chkF P l p.1 p.2
theorem tab_ok : okAll Try.prog lk C20Tab = true := by kernel_rfl
theorem lookF_ok {P : Program} {l : Lk} {t : List (Nat × AFun)} (h : okAll P l t = true) : TOk P l (lookF t) := by
  intro f
  induction t with
  | nil => exact trivial
  | cons p r ih =>
    obtain ⟨k, F⟩ := p
    simp only [okAll, List.all_cons, Bool.and_eq_true] at h
    simp only [lookF]
    by_cases hk : Nat.beq k f = true
    · rw [if_pos hk]
      rw [← Nat.eq_of_beq_eq_true hk]
      exact h.1
    · rw [if_neg hk]
      exact ih h.2
theorem tb_ok : TOk Try.prog lk tb := lookF_ok tab_ok
end Go.Proofs.Ytpblhjaghkkdhaa.Ab
