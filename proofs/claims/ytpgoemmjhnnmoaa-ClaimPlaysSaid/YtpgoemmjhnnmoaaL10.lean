/- The look at the table: each function's abstract code is the program's. -/
import Derived.Test.YtpgoemmjhnnmoaaMB
import Derived.Test.YtpgoemmjhnnmoaaC10
import Derived.Test.YtpgoemmjhnnmoaaProg
namespace Go.Proofs.Ytpgoemmjhnnmoaa.Ab
open Go
def lookN : List (Nat × Nat) → Nat → Option Nat
  | [], _ => none
  | (k, v) :: r, n => if Nat.beq k n then some v else lookN r n
def lookF : List (Nat × AFun) → Nat → Option AEnt
  | [], _ => none
  | (k, v) :: r, n => if Nat.beq k n then some (.fn v) else lookF r n
def lkL : List (Nat × Nat) := [(58, 3), (59, 4), (60, 5), (61, 6), (62, 7), (63, 8), (28, 11), (29, 12), (30, 13), (31, 14), (27, 10), (26, 9), (32, 15), (33, 16), (34, 17), (35, 18), (40, 23), (38, 21), (36, 19), (37, 20), (39, 22), (42, 25), (44, 27), (41, 24), (43, 26), (45, 28), (46, 32), (47, 33), (50, 31), (49, 30), (48, 29), (51, 37), (52, 36), (53, 35), (54, 34), (55, 38), (56, 39), (57, 40)]
def lk : Lk := lookN lkL
def tb : AT := lookF C10Tab
theorem mixed : Try.prog.follows .mixedOrders = true := by kernel_rfl
def okAll (P : Program) (l : Lk) (t : List (Nat × AFun)) : Bool := t.all fun p => chkF P l p.1 p.2
theorem tab_ok : okAll Try.prog lk C10Tab = true := by kernel_rfl
theorem lookF_ok {P : Program} {l : Lk} {t : List (Nat × AFun)} (h : okAll P l t = true) : TOk P l (lookF t) := by
  intro f
  induction t with
  | nil => exact trivial
  | cons p r ih =>
    obtain ⟨k, F⟩ := p
    simp only [okAll, List.all_cons, Bool.and_eq_true] at h
    simp only [lookF]
    by_cases hk : Nat.beq k f = true
    · rw [if_pos hk]
      rw [← Nat.eq_of_beq_eq_true hk]
      exact h.1
    · rw [if_neg hk]
      exact ih h.2
theorem tb_ok : TOk Try.prog lk tb := lookF_ok tab_ok
end Go.Proofs.Ytpgoemmjhnnmoaa.Ab
