/- Chapter 10: a claim is taken out. -/
import Derived.Test.YtpgoemmjhnnmoaaY10b
namespace Go.Proofs.Ytpgoemmjhnnmoaa.Ab
open Go
set_option linter.unusedVariables false
set_option linter.unusedSimpArgs false
variable {T : AT}
theorem delete_spec (c : TabC3 T) (q : List Clm) (i : Nat) (hi : i < q.length) (hl : q.length ≤ 1000000) : Ret2 T 0 i_slices_Delete_claim_waiter_claim_waiter [.sl 2 0 0 q.length none, .i .i64 i, .i .i64 ((i + 1 : Nat) : Int)] [some (.arr 2 (q.map cQ))]
    (fun v h' => v = .sl 2 0 0 (q.eraseIdx i).length none ∧ h' = [some (.arr 2 ((q.eraseIdx i).map cQ))]) := by
  refine Ret2_fnv c.delete rfl rfl ?_
  have a1 : (i : Int) ≤ ((i + 1 : Nat) : Int) := by omega
  have a2 : ((i + 1 : Nat) : Int) ≤ (q.length : Int) := by omega
  have a3 : decide ((i : Int) = ((i + 1 : Nat) : Int)) = false := decide_eq_false (by omega)
  have a4 : (0 : Int) ≤ ((i + 1 : Nat) : Int) := by omega
  have a5 : (i : Int) ≤ (q.length : Int) := by omega
  have a6 : (0 : Int) ≤ (q.length : Int) := by omega
  have n1 : i + (q.length - (i + 1)) = q.length - 1 := by omega
  have n2 : q.length - 1 ≤ q.length := by omega
  have n3 : i + 1 + (q.length - (i + 1)) ≤ q.length := by omega
  (repeat' with_reducible first | refine thn2_nrm ?_ | refine thn2_ret ?_ | refine thn2_ex ?_ | refine blk2_nrm ?_ | refine blk2_ret ?_ | refine blk2_at ?_ | (refine blk2_ex ?_ ?_; decide) | refine W2_sas ?_ | refine W2_ss ?_ | refine W2_sret ?_ | refine W2_sexit ?_ | ((first | apply W2_sra | apply W2_srda | apply W2_runa | apply W2_runda); (conv => lhs; simp only [go_sem, ibin, ishift, a1, a2, a3, a4, a5, a6, Int.le_refl]) <;> rfl) | ((first | apply W2_sct | apply W2_t2); (conv => lhs; simp only [go_sem]) <;> rfl; rfl) | ((first | apply W2_scf | apply W2_f2); (conv => lhs; simp only [go_sem]) <;> rfl; rfl) | refine W2_ret ?_ | refine W2_exit ?_ | refine W2_skip ?_ | refine W2_seq ?_ | refine W2_block ?_)
  have hsh : (q.drop (i + 1)).take (q.length - (i + 1)) = q.drop (i + 1) := List.take_of_length_le (by simp)
  have he : q.take i ++ q.drop (i + 1) = q.eraseIdx i := by rw [List.eraseIdx_eq_take_drop_succ]
  have hel : (q.eraseIdx i).length = q.length - 1 := by rw [List.length_eraseIdx_of_lt hi]
  (with_reducible first | apply W2_srda | apply W2_runda)
  conv => lhs; simp only [go_sem, ibin, ishift, a1, a2, a3, a4, a5, a6, Int.le_refl, hsh, List.length_drop, n1, n2, n3]
  rw [← List.map_append, he, ← hel]
  have b1 : (((q.eraseIdx i).length : Nat) : Int) ≤ (q.length : Int) := by omega
  have b2 : q.length - (q.eraseIdx i).length = 1 := by omega
  (repeat' with_reducible first | refine thn2_nrm ?_ | refine thn2_ret ?_ | refine thn2_ex ?_ | refine blk2_nrm ?_ | refine blk2_ret ?_ | refine blk2_at ?_ | (refine blk2_ex ?_ ?_; decide) | refine W2_sas ?_ | refine W2_ss ?_ | refine W2_sret ?_ | refine W2_sexit ?_ | refine W2_skip ?_ | ((first | apply W2_sct | apply W2_t2); (conv => lhs; simp only [go_sem]) <;> rfl; rfl) | ((first | apply W2_scf | apply W2_f2); (conv => lhs; simp only [go_sem]) <;> rfl; rfl) | refine W2_block ?_)
  (with_reducible first | apply W2_sra | apply W2_runa); ((conv => lhs; simp only [go_sem, ibin, ishift, b1, b2, a6, Int.le_refl, List.length_drop, Nat.le_refl]) <;> with_reducible rfl)
  (repeat' with_reducible first | refine thn2_nrm ?_ | refine thn2_ret ?_ | refine thn2_ex ?_ | refine blk2_nrm ?_ | refine blk2_ret ?_ | refine blk2_at ?_ | (refine blk2_ex ?_ ?_; decide) | refine W2_sas ?_ | refine W2_ss ?_ | refine W2_sret ?_ | refine W2_sexit ?_ | refine W2_skip ?_ | ((first | apply W2_sct | apply W2_t2); (conv => lhs; simp only [go_sem]) <;> rfl; rfl) | ((first | apply W2_scf | apply W2_f2); (conv => lhs; simp only [go_sem]) <;> rfl; rfl) | refine W2_block ?_)
  refine W2.weak (Wk.cap 0 rfl) ?_
  refine W2.weak (Wk.row 0 (q.eraseIdx i).length rfl) ?_
  (repeat' with_reducible first | refine thn2_nrm ?_ | refine thn2_ret ?_ | refine thn2_ex ?_ | refine blk2_nrm ?_ | refine blk2_ret ?_ | refine blk2_at ?_ | (refine blk2_ex ?_ ?_; decide) | refine W2_sas ?_ | refine W2_ss ?_ | refine W2_sret ?_ | refine W2_sexit ?_ | ((first | apply W2_sra | apply W2_srda | apply W2_runa | apply W2_runda); (conv => lhs; simp only [go_sem, ibin, ishift]) <;> rfl) | ((first | apply W2_sct | apply W2_t2); (conv => lhs; simp only [go_sem]) <;> rfl; rfl) | ((first | apply W2_scf | apply W2_f2); (conv => lhs; simp only [go_sem]) <;> rfl; rfl) | refine W2_ret ?_ | refine W2_exit ?_ | refine W2_skip ?_ | refine W2_seq ?_ | refine W2_block ?_)
  refine ⟨by first | exact .inr rfl | exact .inl rfl, _, _, (by (conv => lhs; simp only [go_sem, ibin, ishift]) <;> with_reducible rfl), (by (conv => lhs; simp only [go_sem, ibin, ishift]) <;> with_reducible rfl), ?_⟩
  refine ⟨[0], by decide, rfl, ?_⟩
  refine ⟨rfl, ?_⟩
  have key : ∀ (n : Nat) (X Y R S : List (List PV)), X.length = n → List.take n (List.take n (X ++ Y) ++ R ++ S) = X := by
    rintro n X Y R S rfl
    rw [List.take_left, List.append_assoc, List.take_left]
  rw [key _ _ _ _ _ (List.length_map ..)]
  rfl
end Go.Proofs.Ytpgoemmjhnnmoaa.Ab
