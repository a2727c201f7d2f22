/- Chapter 17: small laws. -/
import Derived.Test.YtjijhkmimjolhaaY17f
namespace Go.Proofs.Ytjijhkmimjolhaa.Ab
open Go
set_option linter.unusedVariables false
theorem noTote_out {t : Int} (h : 1 ≤ t ∧ t ≤ 30) : noTote t = false := by simp [noTote]; omega
theorem noDev_out {m : Mi} {d : Int} (h : 1 ≤ d ∧ d < m.ds.length) : m.noDev d = false := by simp [Mi.noDev]; omega
theorem noNode_out {m : Mi} {n : Int} (h : 0 ≤ n ∧ n < m.at_.length) : m.noNode n = false := by simp [Mi.noNode]; omega
/-- the places of what is true -/
def dnB : List Bool → Nat → List Int
  | [], _ => []
  | x :: r, j => if x = true then (j : Int) :: dnB r (j + 1) else dnB r (j + 1)
theorem dn_B : ∀ (l : List Md) (k : Nat), dn l k = dnB (l.map Md.down) k
  | [], k => rfl
  | x :: l, k => by rw [dn, List.map_cons, dnB, dn_B l (k + 1)]
theorem dnB_ge : ∀ {l : List Bool} {k : Nat} {v : Int}, v ∈ dnB l k → (k : Int) ≤ v
  | [], k, v, h => by simp [dnB] at h
  | x :: l, k, v, h => by
    rw [dnB] at h
    split at h
    · rcases List.mem_cons.1 h with rfl | h
      · exact Int.le_refl _
      · have := dnB_ge h; omega
    · have := dnB_ge h; omega
theorem dnB_mem : ∀ {l : List Bool} {k j : Nat}, l[j]? = some true → ((k + j : Nat) : Int) ∈ dnB l k
  | [], k, j, h => by simp at h
  | x :: l, k, 0, h => by
    simp at h; subst h
    rw [dnB, if_pos rfl]; exact .head _
  | x :: l, k, j + 1, h => by
    have := dnB_mem (k := k + 1) (show l[j]? = some true by simpa using h)
    rw [show k + 1 + j = k + (j + 1) by omega] at this
    rw [dnB]
    split
    · exact .tail _ this
    · exact this
theorem dnB_off : ∀ {l : List Bool} {k j : Nat}, dnB (l.set j false) k = (dnB l k).filter fun v => !decide (v = ((k + j : Nat) : Int))
  | [], k, j => by simp [dnB]
  | x :: l, k, 0 => by
    have hn : (dnB l (k + 1)).filter (fun v => !decide (v = ((k + 0 : Nat) : Int))) = dnB l (k + 1) := List.filter_eq_self.2 fun v hv => by
      have := dnB_ge hv
      simp; omega
    rw [List.set_cons_zero, dnB, dnB]
    cases x
    · simp only [Bool.false_eq_true, if_false]; exact hn.symm
    · simp only [Bool.false_eq_true, if_false, if_true]
      rw [List.filter_cons_of_neg (by simp)]; exact hn.symm
  | x :: l, k, j + 1 => by
    have ih := dnB_off (l := l) (k := k + 1) (j := j)
    rw [show k + 1 + j = k + (j + 1) by omega] at ih
    rw [List.set_cons_succ, dnB, dnB]
    cases x
    · simp only [Bool.false_eq_true, if_false]; exact ih
    · simp only [if_true]
      rw [List.filter_cons_of_pos (by simp; omega), ih]
end Go.Proofs.Ytjijhkmimjolhaa.Ab
