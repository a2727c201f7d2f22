/- The look at the table: each function's abstract code is the program's. -/
import Derived.Test.YtdcknhimmdmgoaaMB
import Derived.Test.YtdcknhimmdmgoaaC18
import Derived.Test.YtdcknhimmdmgoaaProg
namespace Go.Proofs.Ytdcknhimmdmgoaa.Ab
open Go
def lookN : List (Nat × Nat) → Nat → Option Nat
  | [], _ => none
  | (k, v) :: r, n => if Nat.beq k n then some v else lookN r n
def lookF : List (Nat × AFun) → Nat → Option AEnt
  | [], _ => none
  | (k, v) :: r, n => if Nat.beq k n then some (.fn v) else lookF r n
def lkL : List (Nat × Nat) := [(19, 3), (20, 4), (21, 5), (22, 6), (23, 7), (24, 8), (25, 9), (1, 11), (0, 10), (2, 12), (3, 13), (5, 15), (4, 14), (6, 16), (7, 17), (8, 18), (9, 19), (11, 21), (10, 20), (14, 24), (13, 23), (12, 22), (15, 25), (16, 26), (17, 27), (18, 28)]
def lk : Lk := lookN lkL
def tb : AT := lookF C18Tab
theorem mixed : Try.prog.follows .mixedOrders = true := by kernel_rfl
def okAll (P : Program) (l : Lk) (t : List (Nat × AFun)) : Bool := t.all fun p => chkF P l p.1 p.2
theorem tab_ok : okAll Try.prog lk C18Tab = true := by kernel_rfl
theorem lookF_ok {P : Program} {l : Lk} {t : List (Nat × AFun)} (h : okAll P l t = true) : TOk P l (lookF t) := by
  intro f
  induction t with
  | nil => exact trivial
  | cons p r ih =>
    obtain ⟨k, F⟩ := p
    simp only [okAll, List.all_cons, Bool.and_eq_true] at h
    simp only [lookF]
    by_cases hk : Nat.beq k f = true
    · rw [if_pos hk]
      rw [← Nat.eq_of_beq_eq_true hk]
      exact h.1
    · rw [if_neg hk]
      exact ih h.2
theorem tb_ok : TOk Try.prog lk tb := lookF_ok tab_ok
end Go.Proofs.Ytdcknhimmdmgoaa.Ab
