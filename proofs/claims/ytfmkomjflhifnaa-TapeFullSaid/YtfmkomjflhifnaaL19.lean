/- The look at the table: each function's abstract code is the program's. -/
import Derived.Test.YtfmkomjflhifnaaMB
import Derived.Test.YtfmkomjflhifnaaC19
import Derived.Test.YtfmkomjflhifnaaProg
namespace Go.Proofs.Ytfmkomjflhifnaa.Ab
open Go
def lookN : List (Nat × Nat) → Nat → Option Nat
  | [], _ => none
  | (k, v) :: r, n => if Nat.beq k n then some v else lookN r n
def lookF : List (Nat × AFun) → Nat → Option AEnt
  | [], _ => none
  | (k, v) :: r, n => if Nat.beq k n then some (.fn v) else lookF r n
def lkL : List (Nat × Nat) := [(191, 10), (198, 25), (212, 5), (213, 3), (214, 6), (215, 7), (216, 8), (217, 4), (185, 12), (184, 11), (186, 13), (188, 14), (189, 16), (187, 17), (183, 9), (10, 39), (6, 15), (194, 21), (193, 20), (192, 19), (195, 22), (197, 24), (190, 18), (196, 23), (199, 27), (200, 28), (201, 29), (3, 26), (202, 30), (9, 31), (203, 32), (16, 46), (204, 38), (205, 37), (207, 34), (209, 36), (208, 35), (206, 33), (210, 41), (1, 40), (8, 42), (211, 43), (5, 45), (4, 44), (2, 51), (14, 50), (7, 47), (13, 49), (12, 48), (15, 52), (17, 53), (18, 54)]
def lk : Lk := lookN lkL
def tb : AT := lookF C19Tab
theorem mixed : Try.prog.follows .mixedOrders = true := by kernel_rfl
def okAll (P : Program) (l : Lk) (t : List (Nat × AFun)) : Bool := t.all fun p => chkF P l p.1 p.2
theorem tab_ok : okAll Try.prog lk C19Tab = true := by kernel_rfl
theorem lookF_ok {P : Program} {l : Lk} {t : List (Nat × AFun)} (h : okAll P l t = true) : TOk P l (lookF t) := by
  intro f
  induction t with
  | nil => exact trivial
  | cons p r ih =>
    obtain ⟨k, F⟩ := p
    simp only [okAll, List.all_cons, Bool.and_eq_true] at h
    simp only [lookF]
    by_cases hk : Nat.beq k f = true
    · rw [if_pos hk]
      rw [← Nat.eq_of_beq_eq_true hk]
      exact h.1
    · rw [if_neg hk]
      exact ih h.2
theorem tb_ok : TOk Try.prog lk tb := lookF_ok tab_ok
end Go.Proofs.Ytfmkomjflhifnaa.Ab
