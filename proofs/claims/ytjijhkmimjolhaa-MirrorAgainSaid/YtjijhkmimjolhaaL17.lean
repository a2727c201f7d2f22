/- The look at the table: each function's abstract code is the program's. -/
import Derived.Test.YtjijhkmimjolhaaMB
import Derived.Test.YtjijhkmimjolhaaC17
import Derived.Test.YtjijhkmimjolhaaProg
namespace Go.Proofs.Ytjijhkmimjolhaa.Ab
open Go
def lookN : List (Nat × Nat) → Nat → Option Nat
  | [], _ => none
  | (k, v) :: r, n => if Nat.beq k n then some v else lookN r n
def lookF : List (Nat × AFun) → Nat → Option AEnt
  | [], _ => none
  | (k, v) :: r, n => if Nat.beq k n then some (.fn v) else lookF r n
def lkL : List (Nat × Nat) := [(176, 3), (177, 4), (178, 5), (179, 6), (180, 7), (181, 8), (182, 9), (146, 17), (144, 15), (142, 13), (143, 14), (145, 16), (147, 18), (141, 12), (139, 10), (140, 11), (148, 19), (149, 20), (151, 22), (152, 23), (154, 25), (153, 24), (150, 21), (155, 26), (108, 27), (110, 28), (156, 29), (158, 31), (157, 30), (159, 35), (161, 36), (160, 34), (162, 38), (163, 37), (119, 33), (118, 32), (34, 48), (165, 44), (167, 46), (168, 47), (166, 45), (164, 43), (171, 42), (170, 41), (169, 40), (126, 39), (172, 49), (173, 51), (174, 50), (175, 54), (129, 53), (128, 52), (131, 56), (130, 55)]
def lk : Lk := lookN lkL
def tb : AT := lookF C17Tab
theorem mixed : Try.prog.follows .mixedOrders = true := by kernel_rfl
def okAll (P : Program) (l : Lk) (t : List (Nat × AFun)) : Bool := t.all fun p => chkF P l p.1 p.2
theorem tab_ok : okAll Try.prog lk C17Tab = true := by kernel_rfl
theorem lookF_ok {P : Program} {l : Lk} {t : List (Nat × AFun)} (h : okAll P l t = true) : TOk P l (lookF t) := by
  intro f
  induction t with
  | nil => exact trivial
  | cons p r ih =>
    obtain ⟨k, F⟩ := p
    simp only [okAll, List.all_cons, Bool.and_eq_true] at h
    simp only [lookF]
    by_cases hk : Nat.beq k f = true
    · rw [if_pos hk]
      rw [← Nat.eq_of_beq_eq_true hk]
      exact h.1
    · rw [if_neg hk]
      exact ih h.2
theorem tb_ok : TOk Try.prog lk tb := lookF_ok tab_ok
end Go.Proofs.Ytjijhkmimjolhaa.Ab
