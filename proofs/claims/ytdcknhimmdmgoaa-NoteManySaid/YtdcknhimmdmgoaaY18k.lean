/- Chapter 18: laws over the machine: NoteMany, NoteBack, NoteCut. -/
import Derived.Test.YtdcknhimmdmgoaaY18j
namespace Go.Proofs.Ytdcknhimmdmgoaa.Ab
open Go
set_option linter.unusedVariables false
set_option linter.unusedSimpArgs false
variable {T : AT}
theorem noteMany_law (t : TabL18 T) (hT : T i_stillagelaw18_NoteMany = some (.fn c_stillagelaw18_NoteMany)) (l : List Nt) : Ret2 T 0 i_stillagelaw18_NoteMany [.fz 4 (l.map cN)] [] (fun v h' => v = .b true) := by
  refine Ret2_fnv hT rfl rfl ?_
  repeat' (first
    | with_reducible refine thn2_nrm ?_
    | with_reducible refine thn2_ret ?_
    | with_reducible refine thn2_ex ?_
    | with_reducible refine blk2_nrm ?_
    | with_reducible refine blk2_ret ?_
    | with_reducible refine blk2_at ?_
    | (with_reducible refine blk2_ex ?_ ?_; decide)
    | with_reducible refine W2_sas ?_
    | with_reducible refine W2_ss ?_
    | with_reducible refine W2_sret ?_
    | with_reducible refine W2_sexit ?_
    | ((first | with_reducible apply W2_sra | with_reducible apply W2_srda | with_reducible apply W2_runa | with_reducible apply W2_runda); ((conv => lhs; simp only [go_sem, ibin, ishift, reduceIte, Int.reduceToNat, Int.reduceLT, Int.reduceLE, Nat.reduceLeDiff, Nat.reduceLT, Nat.reduceSub, Nat.reduceAdd, Nat.reduceMul, Nat.reduceDiv, Nat.reduceEqDiff, Nat.reduceBEq, Int.reduceAdd, Int.reduceNeg, Int.reduceEq, Int.reduceMul, Int.reduceSub, reduceCtorEq]) <;> with_reducible rfl))
    | ((first | with_reducible apply W2_sct | with_reducible apply W2_t2); ((conv => lhs; simp only [evs, eg, Nat.reduceEqDiff, if_true, if_false, reduceIte, Bool.not_true, Bool.not_false]) <;> with_reducible rfl); with_reducible rfl)
    | ((first | with_reducible apply W2_scf | with_reducible apply W2_f2); ((conv => lhs; simp only [evs, eg, Nat.reduceEqDiff, if_true, if_false, reduceIte, Bool.not_true, Bool.not_false]) <;> with_reducible rfl); with_reducible rfl)
    | with_reducible refine W2_ret ?_
    | with_reducible refine W2_exit ?_
    | with_reducible refine W2_skip ?_
    | with_reducible refine W2_seq ?_
    | with_reducible refine W2_block ?_)
  ((first | with_reducible apply W2_scall | with_reducible apply W2_scalld | with_reducible apply W2_calla | with_reducible apply W2_callda); ((conv => lhs; simp only [go_sem, ibin, ishift, reduceIte, Int.reduceToNat, Int.reduceLT, Int.reduceLE, Nat.reduceLeDiff, Nat.reduceLT, Nat.reduceSub, Nat.reduceAdd, Nat.reduceMul, Nat.reduceDiv, Nat.reduceEqDiff, Nat.reduceBEq, Int.reduceAdd, Int.reduceNeg, Int.reduceEq, Int.reduceMul, Int.reduceSub, reduceCtorEq]) <;> with_reducible rfl))
  refine CK_pure (always_spec t.awake) rfl ?_
  rintro v h' ⟨rfl, rfl⟩
  by_cases hlen : ((l.length : Nat) : Int) > 100
  · have hd : decide (((l.length : Nat) : Int) > 100) = true := decide_eq_true hlen
    ((first | with_reducible apply WO2_finw | with_reducible apply WO2_fina); ((conv => lhs; simp only [go_sem, ibin, ishift, reduceIte, Int.reduceToNat, Int.reduceLT, Int.reduceLE, Nat.reduceLeDiff, Nat.reduceLT, Nat.reduceSub, Nat.reduceAdd, Nat.reduceMul, Nat.reduceDiv, Nat.reduceEqDiff, Nat.reduceBEq, Int.reduceAdd, Int.reduceNeg, Int.reduceEq, Int.reduceMul, Int.reduceSub, reduceCtorEq, hd]) <;> with_reducible rfl))
    repeat' (first
    | with_reducible refine thn2_nrm ?_
    | with_reducible refine thn2_ret ?_
    | with_reducible refine thn2_ex ?_
    | with_reducible refine blk2_nrm ?_
    | with_reducible refine blk2_ret ?_
    | with_reducible refine blk2_at ?_
    | (with_reducible refine blk2_ex ?_ ?_; decide)
    | with_reducible refine W2_sas ?_
    | with_reducible refine W2_ss ?_
    | with_reducible refine W2_sret ?_
    | with_reducible refine W2_sexit ?_
    | ((first | with_reducible apply W2_sra | with_reducible apply W2_srda | with_reducible apply W2_runa | with_reducible apply W2_runda); ((conv => lhs; simp only [go_sem, ibin, ishift, reduceIte, Int.reduceToNat, Int.reduceLT, Int.reduceLE, Nat.reduceLeDiff, Nat.reduceLT, Nat.reduceSub, Nat.reduceAdd, Nat.reduceMul, Nat.reduceDiv, Nat.reduceEqDiff, Nat.reduceBEq, Int.reduceAdd, Int.reduceNeg, Int.reduceEq, Int.reduceMul, Int.reduceSub, reduceCtorEq]) <;> with_reducible rfl))
    | ((first | with_reducible apply W2_sct | with_reducible apply W2_t2); ((conv => lhs; simp only [evs, eg, Nat.reduceEqDiff, if_true, if_false, reduceIte, Bool.not_true, Bool.not_false]) <;> with_reducible rfl); with_reducible rfl)
    | ((first | with_reducible apply W2_scf | with_reducible apply W2_f2); ((conv => lhs; simp only [evs, eg, Nat.reduceEqDiff, if_true, if_false, reduceIte, Bool.not_true, Bool.not_false]) <;> with_reducible rfl); with_reducible rfl)
    | with_reducible refine W2_ret ?_
    | with_reducible refine W2_exit ?_
    | with_reducible refine W2_skip ?_
    | with_reducible refine W2_seq ?_
    | with_reducible refine W2_block ?_)
    ((first | with_reducible apply W2_scall | with_reducible apply W2_scalld | with_reducible apply W2_calla | with_reducible apply W2_callda); ((conv => lhs; simp only [go_sem, ibin, ishift, reduceIte, Int.reduceToNat, Int.reduceLT, Int.reduceLE, Nat.reduceLeDiff, Nat.reduceLT, Nat.reduceSub, Nat.reduceAdd, Nat.reduceMul, Nat.reduceDiv, Nat.reduceEqDiff, Nat.reduceBEq, Int.reduceAdd, Int.reduceNeg, Int.reduceEq, Int.reduceMul, Int.reduceSub, reduceCtorEq]) <;> with_reducible rfl))
    refine CK_pure (always_spec t.awake) rfl ?_
    rintro v h' ⟨rfl, rfl⟩
    ((first | with_reducible apply WO2_finw | with_reducible apply WO2_fina); ((conv => lhs; simp only [go_sem, ibin, ishift, reduceIte, Int.reduceToNat, Int.reduceLT, Int.reduceLE, Nat.reduceLeDiff, Nat.reduceLT, Nat.reduceSub, Nat.reduceAdd, Nat.reduceMul, Nat.reduceDiv, Nat.reduceEqDiff, Nat.reduceBEq, Int.reduceAdd, Int.reduceNeg, Int.reduceEq, Int.reduceMul, Int.reduceSub, reduceCtorEq]) <;> with_reducible rfl))
    repeat' (first
    | with_reducible refine thn2_nrm ?_
    | with_reducible refine thn2_ret ?_
    | with_reducible refine thn2_ex ?_
    | with_reducible refine blk2_nrm ?_
    | with_reducible refine blk2_ret ?_
    | with_reducible refine blk2_at ?_
    | (with_reducible refine blk2_ex ?_ ?_; decide)
    | with_reducible refine W2_sas ?_
    | with_reducible refine W2_ss ?_
    | with_reducible refine W2_sret ?_
    | with_reducible refine W2_sexit ?_
    | ((first | with_reducible apply W2_sra | with_reducible apply W2_srda | with_reducible apply W2_runa | with_reducible apply W2_runda); ((conv => lhs; simp only [go_sem, ibin, ishift, reduceIte, Int.reduceToNat, Int.reduceLT, Int.reduceLE, Nat.reduceLeDiff, Nat.reduceLT, Nat.reduceSub, Nat.reduceAdd, Nat.reduceMul, Nat.reduceDiv, Nat.reduceEqDiff, Nat.reduceBEq, Int.reduceAdd, Int.reduceNeg, Int.reduceEq, Int.reduceMul, Int.reduceSub, reduceCtorEq]) <;> with_reducible rfl))
    | ((first | with_reducible apply W2_sct | with_reducible apply W2_t2); ((conv => lhs; simp only [evs, eg, Nat.reduceEqDiff, if_true, if_false, reduceIte, Bool.not_true, Bool.not_false]) <;> with_reducible rfl); with_reducible rfl)
    | ((first | with_reducible apply W2_scf | with_reducible apply W2_f2); ((conv => lhs; simp only [evs, eg, Nat.reduceEqDiff, if_true, if_false, reduceIte, Bool.not_true, Bool.not_false]) <;> with_reducible rfl); with_reducible rfl)
    | with_reducible refine W2_ret ?_
    | with_reducible refine W2_exit ?_
    | with_reducible refine W2_skip ?_
    | with_reducible refine W2_seq ?_
    | with_reducible refine W2_block ?_)
    refine ⟨by first | exact .inr rfl | exact .inl rfl, _, _, (by (conv => lhs; simp only [go_sem, ibin, ishift, reduceIte, Int.reduceToNat, Int.reduceLT, Int.reduceLE, Nat.reduceLeDiff, Nat.reduceLT, Nat.reduceSub, Nat.reduceAdd, Nat.reduceMul, Nat.reduceDiv, Nat.reduceEqDiff, Nat.reduceBEq, Int.reduceAdd, Int.reduceNeg, Int.reduceEq, Int.reduceMul, Int.reduceSub, reduceCtorEq]) <;> with_reducible rfl), (by (conv => lhs; simp only [go_sem, ibin, ishift, reduceIte, Int.reduceToNat, Int.reduceLT, Int.reduceLE, Nat.reduceLeDiff, Nat.reduceLT, Nat.reduceSub, Nat.reduceAdd, Nat.reduceMul, Nat.reduceDiv, Nat.reduceEqDiff, Nat.reduceBEq, Int.reduceAdd, Int.reduceNeg, Int.reduceEq, Int.reduceMul, Int.reduceSub, reduceCtorEq]) <;> with_reducible rfl), ?_⟩
    refine ⟨[], by decide, rfl, ?_⟩
    rfl
  have hd : decide (((l.length : Nat) : Int) > 100) = false := decide_eq_false hlen
  have hb : l.length ≤ 100 := by omega
  have hroom : l.length * 32 ≤ room := by simp only [room]; omega
  ((first | with_reducible apply WO2_finw | with_reducible apply WO2_fina); ((conv => lhs; simp only [go_sem, ibin, ishift, reduceIte, Int.reduceToNat, Int.reduceLT, Int.reduceLE, Nat.reduceLeDiff, Nat.reduceLT, Nat.reduceSub, Nat.reduceAdd, Nat.reduceMul, Nat.reduceDiv, Nat.reduceEqDiff, Nat.reduceBEq, Int.reduceAdd, Int.reduceNeg, Int.reduceEq, Int.reduceMul, Int.reduceSub, reduceCtorEq, hd]) <;> with_reducible rfl))
  repeat' (first
    | with_reducible refine thn2_nrm ?_
    | with_reducible refine thn2_ret ?_
    | with_reducible refine thn2_ex ?_
    | with_reducible refine blk2_nrm ?_
    | with_reducible refine blk2_ret ?_
    | with_reducible refine blk2_at ?_
    | (with_reducible refine blk2_ex ?_ ?_; decide)
    | with_reducible refine W2_sas ?_
    | with_reducible refine W2_ss ?_
    | with_reducible refine W2_sret ?_
    | with_reducible refine W2_sexit ?_
    | ((first | with_reducible apply W2_sra | with_reducible apply W2_srda | with_reducible apply W2_runa | with_reducible apply W2_runda); ((conv => lhs; simp only [go_sem, ibin, ishift, reduceIte, Int.reduceToNat, Int.reduceLT, Int.reduceLE, Nat.reduceLeDiff, Nat.reduceLT, Nat.reduceSub, Nat.reduceAdd, Nat.reduceMul, Nat.reduceDiv, Nat.reduceEqDiff, Nat.reduceBEq, Int.reduceAdd, Int.reduceNeg, Int.reduceEq, Int.reduceMul, Int.reduceSub, reduceCtorEq, hroom]) <;> with_reducible rfl))
    | ((first | with_reducible apply W2_sct | with_reducible apply W2_t2); ((conv => lhs; simp only [evs, eg, Nat.reduceEqDiff, if_true, if_false, reduceIte, Bool.not_true, Bool.not_false]) <;> with_reducible rfl); with_reducible rfl)
    | ((first | with_reducible apply W2_scf | with_reducible apply W2_f2); ((conv => lhs; simp only [evs, eg, Nat.reduceEqDiff, if_true, if_false, reduceIte, Bool.not_true, Bool.not_false]) <;> with_reducible rfl); with_reducible rfl)
    | with_reducible refine W2_ret ?_
    | with_reducible refine W2_exit ?_
    | with_reducible refine W2_skip ?_
    | with_reducible refine W2_seq ?_
    | with_reducible refine W2_block ?_)
  refine W2.wfrz 1 rfl (by (conv => lhs; simp only [go_sem, ibin, ishift, reduceIte, Int.reduceToNat, Int.reduceLT, Int.reduceLE, Nat.reduceLeDiff, Nat.reduceLT, Nat.reduceSub, Nat.reduceAdd, Nat.reduceMul, Nat.reduceDiv, Nat.reduceEqDiff, Nat.reduceBEq, Int.reduceAdd, Int.reduceNeg, Int.reduceEq, Int.reduceMul, Int.reduceSub, reduceCtorEq]) <;> with_reducible rfl) (by (conv => lhs; simp only [go_sem, ibin, ishift, reduceIte, Int.reduceToNat, Int.reduceLT, Int.reduceLE, Nat.reduceLeDiff, Nat.reduceLT, Nat.reduceSub, Nat.reduceAdd, Nat.reduceMul, Nat.reduceDiv, Nat.reduceEqDiff, Nat.reduceBEq, Int.reduceAdd, Int.reduceNeg, Int.reduceEq, Int.reduceMul, Int.reduceSub, reduceCtorEq]) <;> with_reducible rfl) ?_
  ((first | with_reducible apply W2_scall | with_reducible apply W2_scalld | with_reducible apply W2_calla | with_reducible apply W2_callda); ((conv => lhs; simp only [go_sem, ibin, ishift, reduceIte, Int.reduceToNat, Int.reduceLT, Int.reduceLE, Nat.reduceLeDiff, Nat.reduceLT, Nat.reduceSub, Nat.reduceAdd, Nat.reduceMul, Nat.reduceDiv, Nat.reduceEqDiff, Nat.reduceBEq, Int.reduceAdd, Int.reduceNeg, Int.reduceEq, Int.reduceMul, Int.reduceSub, reduceCtorEq]) <;> with_reducible rfl))
  refine CK_pure (write_spec t.toTabN l (by omega)) rfl ?_
  rintro v h' ⟨hw1, hw2⟩
  by_cases hall : ∀ n ∈ l, goodN n
  · obtain ⟨rfl, rfl⟩ := hw1 hall
    have hel := encsB_le hall
    ((first | with_reducible apply WO2_finw | with_reducible apply WO2_fina); ((conv => lhs; simp only [go_sem, ibin, ishift, reduceIte, Int.reduceToNat, Int.reduceLT, Int.reduceLE, Nat.reduceLeDiff, Nat.reduceLT, Nat.reduceSub, Nat.reduceAdd, Nat.reduceMul, Nat.reduceDiv, Nat.reduceEqDiff, Nat.reduceBEq, Int.reduceAdd, Int.reduceNeg, Int.reduceEq, Int.reduceMul, Int.reduceSub, reduceCtorEq]) <;> with_reducible rfl))
    refine W2.wfrz 2 rfl (by (conv => lhs; simp only [go_sem, ibin, ishift, reduceIte, Int.reduceToNat, Int.reduceLT, Int.reduceLE, Nat.reduceLeDiff, Nat.reduceLT, Nat.reduceSub, Nat.reduceAdd, Nat.reduceMul, Nat.reduceDiv, Nat.reduceEqDiff, Nat.reduceBEq, Int.reduceAdd, Int.reduceNeg, Int.reduceEq, Int.reduceMul, Int.reduceSub, reduceCtorEq]) <;> with_reducible rfl) (by (conv => lhs; simp only [go_sem, ibin, ishift, reduceIte, Int.reduceToNat, Int.reduceLT, Int.reduceLE, Nat.reduceLeDiff, Nat.reduceLT, Nat.reduceSub, Nat.reduceAdd, Nat.reduceMul, Nat.reduceDiv, Nat.reduceEqDiff, Nat.reduceBEq, Int.reduceAdd, Int.reduceNeg, Int.reduceEq, Int.reduceMul, Int.reduceSub, reduceCtorEq]) <;> with_reducible rfl) ?_
    refine W2_sra (by (conv => lhs; simp only [go_sem, ibin, ishift, reduceIte, Int.reduceToNat, Int.reduceLT, Int.reduceLE, Nat.reduceLeDiff, Nat.reduceLT, Nat.reduceSub, Nat.reduceAdd, Nat.reduceMul, Nat.reduceDiv, Nat.reduceEqDiff, Nat.reduceBEq, Int.reduceAdd, Int.reduceNeg, Int.reduceEq, Int.reduceMul, Int.reduceSub, reduceCtorEq]) <;> with_reducible rfl) ?_
    refine W2.wview [] (by decide) rfl (by (conv => lhs; simp only [go_sem, ibin, ishift, reduceIte, Int.reduceToNat, Int.reduceLT, Int.reduceLE, Nat.reduceLeDiff, Nat.reduceLT, Nat.reduceSub, Nat.reduceAdd, Nat.reduceMul, Nat.reduceDiv, Nat.reduceEqDiff, Nat.reduceBEq, Int.reduceAdd, Int.reduceNeg, Int.reduceEq, Int.reduceMul, Int.reduceSub, reduceCtorEq]) <;> with_reducible rfl) (by (conv => lhs; simp only [go_sem, ibin, ishift, reduceIte, Int.reduceToNat, Int.reduceLT, Int.reduceLE, Nat.reduceLeDiff, Nat.reduceLT, Nat.reduceSub, Nat.reduceAdd, Nat.reduceMul, Nat.reduceDiv, Nat.reduceEqDiff, Nat.reduceBEq, Int.reduceAdd, Int.reduceNeg, Int.reduceEq, Int.reduceMul, Int.reduceSub, reduceCtorEq]) <;> with_reducible rfl) ?_
    refine W2.wnil 6 1 rfl (by (conv => lhs; simp only [go_sem, ibin, ishift, reduceIte, Int.reduceToNat, Int.reduceLT, Int.reduceLE, Nat.reduceLeDiff, Nat.reduceLT, Nat.reduceSub, Nat.reduceAdd, Nat.reduceMul, Nat.reduceDiv, Nat.reduceEqDiff, Nat.reduceBEq, Int.reduceAdd, Int.reduceNeg, Int.reduceEq, Int.reduceMul, Int.reduceSub, reduceCtorEq]) <;> with_reducible rfl) (by (conv => lhs; simp only [go_sem, ibin, ishift, reduceIte, Int.reduceToNat, Int.reduceLT, Int.reduceLE, Nat.reduceLeDiff, Nat.reduceLT, Nat.reduceSub, Nat.reduceAdd, Nat.reduceMul, Nat.reduceDiv, Nat.reduceEqDiff, Nat.reduceBEq, Int.reduceAdd, Int.reduceNeg, Int.reduceEq, Int.reduceMul, Int.reduceSub, reduceCtorEq]) <;> with_reducible rfl) ?_
    repeat' (first
    | with_reducible refine thn2_nrm ?_
    | with_reducible refine thn2_ret ?_
    | with_reducible refine thn2_ex ?_
    | with_reducible refine blk2_nrm ?_
    | with_reducible refine blk2_ret ?_
    | with_reducible refine blk2_at ?_
    | (with_reducible refine blk2_ex ?_ ?_; decide)
    | with_reducible refine W2_sas ?_
    | with_reducible refine W2_ss ?_
    | with_reducible refine W2_sret ?_
    | with_reducible refine W2_sexit ?_
    | ((first | with_reducible apply W2_sra | with_reducible apply W2_srda | with_reducible apply W2_runa | with_reducible apply W2_runda); ((conv => lhs; simp only [go_sem, ibin, ishift, reduceIte, Int.reduceToNat, Int.reduceLT, Int.reduceLE, Nat.reduceLeDiff, Nat.reduceLT, Nat.reduceSub, Nat.reduceAdd, Nat.reduceMul, Nat.reduceDiv, Nat.reduceEqDiff, Nat.reduceBEq, Int.reduceAdd, Int.reduceNeg, Int.reduceEq, Int.reduceMul, Int.reduceSub, reduceCtorEq]) <;> with_reducible rfl))
    | ((first | with_reducible apply W2_sct | with_reducible apply W2_t2); ((conv => lhs; simp only [evs, eg, Nat.reduceEqDiff, if_true, if_false, reduceIte, Bool.not_true, Bool.not_false]) <;> with_reducible rfl); with_reducible rfl)
    | ((first | with_reducible apply W2_scf | with_reducible apply W2_f2); ((conv => lhs; simp only [evs, eg, Nat.reduceEqDiff, if_true, if_false, reduceIte, Bool.not_true, Bool.not_false]) <;> with_reducible rfl); with_reducible rfl)
    | with_reducible refine W2_ret ?_
    | with_reducible refine W2_exit ?_
    | with_reducible refine W2_skip ?_
    | with_reducible refine W2_seq ?_
    | with_reducible refine W2_block ?_)
    refine W2_loopv (fun m e h => ∃ j, j + m = l.length ∧ e = [(0, .fz 4 (l.map cN)), (3, .fz 4 (l.map cN)), (4, .fz 1 ((encsB l).map c8)), (5, .i .i64 0), (6, .sl 1 0 0 (encsB (l.take j)).length none), (25, .i .i64 l.length), (26, .i .i64 j)] ∧ h = [some (.arr 1 ((encsB (l.take j)).map c8))]) l.length ⟨0, by omega, rfl, rfl⟩ ?_
    rintro m e h ⟨j, hj, rfl, rfl⟩
    repeat' (first
    | with_reducible refine thn2_nrm ?_
    | with_reducible refine thn2_ret ?_
    | with_reducible refine thn2_ex ?_
    | with_reducible refine blk2_nrm ?_
    | with_reducible refine blk2_ret ?_
    | with_reducible refine blk2_at ?_
    | (with_reducible refine blk2_ex ?_ ?_; decide)
    | with_reducible refine W2_sas ?_
    | with_reducible refine W2_ss ?_
    | with_reducible refine W2_sret ?_
    | with_reducible refine W2_sexit ?_
    | ((first | with_reducible apply W2_sra | with_reducible apply W2_srda | with_reducible apply W2_runa | with_reducible apply W2_runda); ((conv => lhs; simp only [go_sem, ibin, ishift, reduceIte, Int.reduceToNat, Int.reduceLT, Int.reduceLE, Nat.reduceLeDiff, Nat.reduceLT, Nat.reduceSub, Nat.reduceAdd, Nat.reduceMul, Nat.reduceDiv, Nat.reduceEqDiff, Nat.reduceBEq, Int.reduceAdd, Int.reduceNeg, Int.reduceEq, Int.reduceMul, Int.reduceSub, reduceCtorEq]) <;> with_reducible rfl))
    | ((first | with_reducible apply W2_sct | with_reducible apply W2_t2); ((conv => lhs; simp only [evs, eg, Nat.reduceEqDiff, if_true, if_false, reduceIte, Bool.not_true, Bool.not_false]) <;> with_reducible rfl); with_reducible rfl)
    | ((first | with_reducible apply W2_scf | with_reducible apply W2_f2); ((conv => lhs; simp only [evs, eg, Nat.reduceEqDiff, if_true, if_false, reduceIte, Bool.not_true, Bool.not_false]) <;> with_reducible rfl); with_reducible rfl)
    | with_reducible refine W2_ret ?_
    | with_reducible refine W2_exit ?_
    | with_reducible refine W2_skip ?_
    | with_reducible refine W2_seq ?_
    | with_reducible refine W2_block ?_)
    (((first | with_reducible apply W2_sc | with_reducible apply W2_cond); ((conv => lhs; simp only [evs, eg, Nat.reduceEqDiff, if_true, if_false, reduceIte, Bool.not_true, Bool.not_false]) <;> with_reducible rfl)) <;> intro hx <;> (try rw [hx]) <;> simp only [Bool.or_eq_true, Bool.and_eq_true, decide_eq_true_eq, Bool.or_eq_false_iff, Bool.and_eq_false_iff, decide_eq_false_iff_not, Bool.not_eq_true', Bool.not_eq_false', bne_iff_ne, beq_iff_eq, not_or, not_and, Decidable.not_not, ne_eq, gt_iff_lt, ge_iff_le, Int.not_lt, Int.not_le] at hx)
    · have hjl : j < l.length := by omega
      have hg := List.getElem?_eq_getElem hjl
      have hm := List.getElem_mem hjl
      have hlen := encsB_le (l := l.take j) fun n hn => hall n (List.mem_of_mem_take hn)
      have htl : (l.take j).length = j := by simp; omega
      have hs := encsB_take hjl
      generalize hn : l[j] = n at hg hm hs
      have g := hall n hm
      have hroom : (encsB (l.take j)).length + (encB n).length ≤ room := by
        have := (encB_le g).1
        simp only [room]; omega
      repeat' (first
    | with_reducible refine thn2_nrm ?_
    | with_reducible refine thn2_ret ?_
    | with_reducible refine thn2_ex ?_
    | with_reducible refine blk2_nrm ?_
    | with_reducible refine blk2_ret ?_
    | with_reducible refine blk2_at ?_
    | (with_reducible refine blk2_ex ?_ ?_; decide)
    | with_reducible refine W2_sas ?_
    | with_reducible refine W2_ss ?_
    | with_reducible refine W2_sret ?_
    | with_reducible refine W2_sexit ?_
    | ((first | with_reducible apply W2_sra | with_reducible apply W2_srda | with_reducible apply W2_runa | with_reducible apply W2_runda); ((conv => lhs; simp only [go_sem, ibin, ishift, reduceIte, Int.reduceToNat, Int.reduceLT, Int.reduceLE, Nat.reduceLeDiff, Nat.reduceLT, Nat.reduceSub, Nat.reduceAdd, Nat.reduceMul, Nat.reduceDiv, Nat.reduceEqDiff, Nat.reduceBEq, Int.reduceAdd, Int.reduceNeg, Int.reduceEq, Int.reduceMul, Int.reduceSub, reduceCtorEq]) <;> with_reducible rfl))
    | ((first | with_reducible apply W2_sct | with_reducible apply W2_t2); ((conv => lhs; simp only [evs, eg, Nat.reduceEqDiff, if_true, if_false, reduceIte, Bool.not_true, Bool.not_false]) <;> with_reducible rfl); with_reducible rfl)
    | ((first | with_reducible apply W2_scf | with_reducible apply W2_f2); ((conv => lhs; simp only [evs, eg, Nat.reduceEqDiff, if_true, if_false, reduceIte, Bool.not_true, Bool.not_false]) <;> with_reducible rfl); with_reducible rfl)
    | with_reducible refine W2_ret ?_
    | with_reducible refine W2_exit ?_
    | with_reducible refine W2_skip ?_
    | with_reducible refine W2_seq ?_
    | with_reducible refine W2_block ?_)
      ((first | with_reducible apply W2_scall | with_reducible apply W2_scalld | with_reducible apply W2_calla | with_reducible apply W2_callda); ((conv => lhs; simp only [go_sem, ibin, ishift, reduceIte, Int.reduceToNat, Int.reduceLT, Int.reduceLE, Nat.reduceLeDiff, Nat.reduceLT, Nat.reduceSub, Nat.reduceAdd, Nat.reduceMul, Nat.reduceDiv, Nat.reduceEqDiff, Nat.reduceBEq, Int.reduceAdd, Int.reduceNeg, Int.reduceEq, Int.reduceMul, Int.reduceSub, reduceCtorEq, hg, cN]) <;> with_reducible rfl))
      refine CK_pure (refgood_spec t.toTabR n) rfl ?_
      rintro v h' ⟨rfl, rfl⟩
      rw [decide_eq_true g]
      ((first | with_reducible apply WO2_finw | with_reducible apply WO2_fina); ((conv => lhs; simp only [go_sem, ibin, ishift, reduceIte, Int.reduceToNat, Int.reduceLT, Int.reduceLE, Nat.reduceLeDiff, Nat.reduceLT, Nat.reduceSub, Nat.reduceAdd, Nat.reduceMul, Nat.reduceDiv, Nat.reduceEqDiff, Nat.reduceBEq, Int.reduceAdd, Int.reduceNeg, Int.reduceEq, Int.reduceMul, Int.reduceSub, reduceCtorEq]) <;> with_reducible rfl))
      repeat' (first
    | with_reducible refine thn2_nrm ?_
    | with_reducible refine thn2_ret ?_
    | with_reducible refine thn2_ex ?_
    | with_reducible refine blk2_nrm ?_
    | with_reducible refine blk2_ret ?_
    | with_reducible refine blk2_at ?_
    | (with_reducible refine blk2_ex ?_ ?_; decide)
    | with_reducible refine W2_sas ?_
    | with_reducible refine W2_ss ?_
    | with_reducible refine W2_sret ?_
    | with_reducible refine W2_sexit ?_
    | ((first | with_reducible apply W2_sra | with_reducible apply W2_srda | with_reducible apply W2_runa | with_reducible apply W2_runda); ((conv => lhs; simp only [go_sem, ibin, ishift, reduceIte, Int.reduceToNat, Int.reduceLT, Int.reduceLE, Nat.reduceLeDiff, Nat.reduceLT, Nat.reduceSub, Nat.reduceAdd, Nat.reduceMul, Nat.reduceDiv, Nat.reduceEqDiff, Nat.reduceBEq, Int.reduceAdd, Int.reduceNeg, Int.reduceEq, Int.reduceMul, Int.reduceSub, reduceCtorEq]) <;> with_reducible rfl))
    | ((first | with_reducible apply W2_sct | with_reducible apply W2_t2); ((conv => lhs; simp only [evs, eg, Nat.reduceEqDiff, if_true, if_false, reduceIte, Bool.not_true, Bool.not_false]) <;> with_reducible rfl); with_reducible rfl)
    | ((first | with_reducible apply W2_scf | with_reducible apply W2_f2); ((conv => lhs; simp only [evs, eg, Nat.reduceEqDiff, if_true, if_false, reduceIte, Bool.not_true, Bool.not_false]) <;> with_reducible rfl); with_reducible rfl)
    | with_reducible refine W2_ret ?_
    | with_reducible refine W2_exit ?_
    | with_reducible refine W2_skip ?_
    | with_reducible refine W2_seq ?_
    | with_reducible refine W2_block ?_)
      ((first | with_reducible apply W2_scall | with_reducible apply W2_scalld | with_reducible apply W2_calla | with_reducible apply W2_callda); ((conv => lhs; simp only [go_sem, ibin, ishift, reduceIte, Int.reduceToNat, Int.reduceLT, Int.reduceLE, Nat.reduceLeDiff, Nat.reduceLT, Nat.reduceSub, Nat.reduceAdd, Nat.reduceMul, Nat.reduceDiv, Nat.reduceEqDiff, Nat.reduceBEq, Int.reduceAdd, Int.reduceNeg, Int.reduceEq, Int.reduceMul, Int.reduceSub, reduceCtorEq, hg, cN]) <;> with_reducible rfl))
      refine CK_pure (refbytes_spec t.toTabR n g) rfl ?_
      rintro v h' ⟨rfl, rfl⟩
      ((first | with_reducible apply WO2_finw | with_reducible apply WO2_fina); ((conv => lhs; simp only [go_sem, ibin, ishift, reduceIte, Int.reduceToNat, Int.reduceLT, Int.reduceLE, Nat.reduceLeDiff, Nat.reduceLT, Nat.reduceSub, Nat.reduceAdd, Nat.reduceMul, Nat.reduceDiv, Nat.reduceEqDiff, Nat.reduceBEq, Int.reduceAdd, Int.reduceNeg, Int.reduceEq, Int.reduceMul, Int.reduceSub, reduceCtorEq, hroom]) <;> with_reducible rfl))
      repeat' (first
    | with_reducible refine thn2_nrm ?_
    | with_reducible refine thn2_ret ?_
    | with_reducible refine thn2_ex ?_
    | with_reducible refine blk2_nrm ?_
    | with_reducible refine blk2_ret ?_
    | with_reducible refine blk2_at ?_
    | (with_reducible refine blk2_ex ?_ ?_; decide)
    | with_reducible refine W2_sas ?_
    | with_reducible refine W2_ss ?_
    | with_reducible refine W2_sret ?_
    | with_reducible refine W2_sexit ?_
    | ((first | with_reducible apply W2_sra | with_reducible apply W2_srda | with_reducible apply W2_runa | with_reducible apply W2_runda); ((conv => lhs; simp only [go_sem, ibin, ishift, reduceIte, Int.reduceToNat, Int.reduceLT, Int.reduceLE, Nat.reduceLeDiff, Nat.reduceLT, Nat.reduceSub, Nat.reduceAdd, Nat.reduceMul, Nat.reduceDiv, Nat.reduceEqDiff, Nat.reduceBEq, Int.reduceAdd, Int.reduceNeg, Int.reduceEq, Int.reduceMul, Int.reduceSub, reduceCtorEq, wS (show j < 9223372036854775807 by omega)]) <;> with_reducible rfl))
    | ((first | with_reducible apply W2_sct | with_reducible apply W2_t2); ((conv => lhs; simp only [evs, eg, Nat.reduceEqDiff, if_true, if_false, reduceIte, Bool.not_true, Bool.not_false]) <;> with_reducible rfl); with_reducible rfl)
    | ((first | with_reducible apply W2_scf | with_reducible apply W2_f2); ((conv => lhs; simp only [evs, eg, Nat.reduceEqDiff, if_true, if_false, reduceIte, Bool.not_true, Bool.not_false]) <;> with_reducible rfl); with_reducible rfl)
    | with_reducible refine W2_ret ?_
    | with_reducible refine W2_exit ?_
    | with_reducible refine W2_skip ?_
    | with_reducible refine W2_seq ?_
    | with_reducible refine W2_block ?_)
      refine ⟨[2], by decide, rfl, ?_⟩
      exact ⟨l.length - (j + 1), by omega, j + 1, by omega, (by rw [hs, List.length_append]; first | rfl | ((conv => lhs; simp only [go_sem, ibin, ishift, reduceIte, Int.reduceToNat, Int.reduceLT, Int.reduceLE, Nat.reduceLeDiff, Nat.reduceLT, Nat.reduceSub, Nat.reduceAdd, Nat.reduceMul, Nat.reduceDiv, Nat.reduceEqDiff, Nat.reduceBEq, Int.reduceAdd, Int.reduceNeg, Int.reduceEq, Int.reduceMul, Int.reduceSub, reduceCtorEq]) <;> rfl)), (by rw [hs, List.map_append]; first | rfl | ((conv => lhs; simp only [go_sem, ibin, ishift, reduceIte, Int.reduceToNat, Int.reduceLT, Int.reduceLE, Nat.reduceLeDiff, Nat.reduceLT, Nat.reduceSub, Nat.reduceAdd, Nat.reduceMul, Nat.reduceDiv, Nat.reduceEqDiff, Nat.reduceBEq, Int.reduceAdd, Int.reduceNeg, Int.reduceEq, Int.reduceMul, Int.reduceSub, reduceCtorEq]) <;> rfl))⟩
    · have : j = l.length := by omega
      subst this
      rw [List.take_length]
      repeat' (first
    | with_reducible refine thn2_nrm ?_
    | with_reducible refine thn2_ret ?_
    | with_reducible refine thn2_ex ?_
    | with_reducible refine blk2_nrm ?_
    | with_reducible refine blk2_ret ?_
    | with_reducible refine blk2_at ?_
    | (with_reducible refine blk2_ex ?_ ?_; decide)
    | with_reducible refine W2_sas ?_
    | with_reducible refine W2_ss ?_
    | with_reducible refine W2_sret ?_
    | with_reducible refine W2_sexit ?_
    | ((first | with_reducible apply W2_sra | with_reducible apply W2_srda | with_reducible apply W2_runa | with_reducible apply W2_runda); ((conv => lhs; simp only [go_sem, ibin, ishift, reduceIte, Int.reduceToNat, Int.reduceLT, Int.reduceLE, Nat.reduceLeDiff, Nat.reduceLT, Nat.reduceSub, Nat.reduceAdd, Nat.reduceMul, Nat.reduceDiv, Nat.reduceEqDiff, Nat.reduceBEq, Int.reduceAdd, Int.reduceNeg, Int.reduceEq, Int.reduceMul, Int.reduceSub, reduceCtorEq]) <;> with_reducible rfl))
    | ((first | with_reducible apply W2_sct | with_reducible apply W2_t2); ((conv => lhs; simp only [evs, eg, Nat.reduceEqDiff, if_true, if_false, reduceIte, Bool.not_true, Bool.not_false]) <;> with_reducible rfl); with_reducible rfl)
    | ((first | with_reducible apply W2_scf | with_reducible apply W2_f2); ((conv => lhs; simp only [evs, eg, Nat.reduceEqDiff, if_true, if_false, reduceIte, Bool.not_true, Bool.not_false]) <;> with_reducible rfl); with_reducible rfl)
    | with_reducible refine W2_ret ?_
    | with_reducible refine W2_exit ?_
    | with_reducible refine W2_skip ?_
    | with_reducible refine W2_seq ?_
    | with_reducible refine W2_block ?_)
      refine W2.wfrz 0 rfl (by (conv => lhs; simp only [go_sem, ibin, ishift, reduceIte, Int.reduceToNat, Int.reduceLT, Int.reduceLE, Nat.reduceLeDiff, Nat.reduceLT, Nat.reduceSub, Nat.reduceAdd, Nat.reduceMul, Nat.reduceDiv, Nat.reduceEqDiff, Nat.reduceBEq, Int.reduceAdd, Int.reduceNeg, Int.reduceEq, Int.reduceMul, Int.reduceSub, reduceCtorEq]) <;> with_reducible rfl) (by (conv => lhs; simp only [go_sem, ibin, ishift, reduceIte, Int.reduceToNat, Int.reduceLT, Int.reduceLE, Nat.reduceLeDiff, Nat.reduceLT, Nat.reduceSub, Nat.reduceAdd, Nat.reduceMul, Nat.reduceDiv, Nat.reduceEqDiff, Nat.reduceBEq, Int.reduceAdd, Int.reduceNeg, Int.reduceEq, Int.reduceMul, Int.reduceSub, reduceCtorEq]) <;> with_reducible rfl) ?_
      ((first | with_reducible apply W2_scall | with_reducible apply W2_scalld | with_reducible apply W2_calla | with_reducible apply W2_callda); ((conv => lhs; simp only [go_sem, ibin, ishift, reduceIte, Int.reduceToNat, Int.reduceLT, Int.reduceLE, Nat.reduceLeDiff, Nat.reduceLT, Nat.reduceSub, Nat.reduceAdd, Nat.reduceMul, Nat.reduceDiv, Nat.reduceEqDiff, Nat.reduceBEq, Int.reduceAdd, Int.reduceNeg, Int.reduceEq, Int.reduceMul, Int.reduceSub, reduceCtorEq, decide_true]) <;> with_reducible rfl))
      refine CK_pure (same_spec t.toTabR l l (by omega)) rfl ?_
      rintro v h' ⟨rfl, rfl⟩
      ((first | with_reducible apply WO2_finw | with_reducible apply WO2_fina); ((conv => lhs; simp only [go_sem, ibin, ishift, reduceIte, Int.reduceToNat, Int.reduceLT, Int.reduceLE, Nat.reduceLeDiff, Nat.reduceLT, Nat.reduceSub, Nat.reduceAdd, Nat.reduceMul, Nat.reduceDiv, Nat.reduceEqDiff, Nat.reduceBEq, Int.reduceAdd, Int.reduceNeg, Int.reduceEq, Int.reduceMul, Int.reduceSub, reduceCtorEq, decide_true]) <;> with_reducible rfl))
      repeat' (first
    | with_reducible refine thn2_nrm ?_
    | with_reducible refine thn2_ret ?_
    | with_reducible refine thn2_ex ?_
    | with_reducible refine blk2_nrm ?_
    | with_reducible refine blk2_ret ?_
    | with_reducible refine blk2_at ?_
    | (with_reducible refine blk2_ex ?_ ?_; decide)
    | with_reducible refine W2_sas ?_
    | with_reducible refine W2_ss ?_
    | with_reducible refine W2_sret ?_
    | with_reducible refine W2_sexit ?_
    | ((first | with_reducible apply W2_sra | with_reducible apply W2_srda | with_reducible apply W2_runa | with_reducible apply W2_runda); ((conv => lhs; simp only [go_sem, ibin, ishift, reduceIte, Int.reduceToNat, Int.reduceLT, Int.reduceLE, Nat.reduceLeDiff, Nat.reduceLT, Nat.reduceSub, Nat.reduceAdd, Nat.reduceMul, Nat.reduceDiv, Nat.reduceEqDiff, Nat.reduceBEq, Int.reduceAdd, Int.reduceNeg, Int.reduceEq, Int.reduceMul, Int.reduceSub, reduceCtorEq]) <;> with_reducible rfl))
    | ((first | with_reducible apply W2_sct | with_reducible apply W2_t2); ((conv => lhs; simp only [evs, eg, Nat.reduceEqDiff, if_true, if_false, reduceIte, Bool.not_true, Bool.not_false]) <;> with_reducible rfl); with_reducible rfl)
    | ((first | with_reducible apply W2_scf | with_reducible apply W2_f2); ((conv => lhs; simp only [evs, eg, Nat.reduceEqDiff, if_true, if_false, reduceIte, Bool.not_true, Bool.not_false]) <;> with_reducible rfl); with_reducible rfl)
    | with_reducible refine W2_ret ?_
    | with_reducible refine W2_exit ?_
    | with_reducible refine W2_skip ?_
    | with_reducible refine W2_seq ?_
    | with_reducible refine W2_block ?_)
      refine ⟨by first | exact .inr rfl | exact .inl rfl, _, _, (by (conv => lhs; simp only [go_sem, ibin, ishift, reduceIte, Int.reduceToNat, Int.reduceLT, Int.reduceLE, Nat.reduceLeDiff, Nat.reduceLT, Nat.reduceSub, Nat.reduceAdd, Nat.reduceMul, Nat.reduceDiv, Nat.reduceEqDiff, Nat.reduceBEq, Int.reduceAdd, Int.reduceNeg, Int.reduceEq, Int.reduceMul, Int.reduceSub, reduceCtorEq]) <;> with_reducible rfl), (by (conv => lhs; simp only [go_sem, ibin, ishift, reduceIte, Int.reduceToNat, Int.reduceLT, Int.reduceLE, Nat.reduceLeDiff, Nat.reduceLT, Nat.reduceSub, Nat.reduceAdd, Nat.reduceMul, Nat.reduceDiv, Nat.reduceEqDiff, Nat.reduceBEq, Int.reduceAdd, Int.reduceNeg, Int.reduceEq, Int.reduceMul, Int.reduceSub, reduceCtorEq]) <;> with_reducible rfl), ?_⟩
      refine ⟨[], by decide, rfl, ?_⟩
      rfl
  · obtain ⟨rfl, rfl⟩ := hw2 hall
    ((first | with_reducible apply WO2_finw | with_reducible apply WO2_fina); ((conv => lhs; simp only [go_sem, ibin, ishift, reduceIte, Int.reduceToNat, Int.reduceLT, Int.reduceLE, Nat.reduceLeDiff, Nat.reduceLT, Nat.reduceSub, Nat.reduceAdd, Nat.reduceMul, Nat.reduceDiv, Nat.reduceEqDiff, Nat.reduceBEq, Int.reduceAdd, Int.reduceNeg, Int.reduceEq, Int.reduceMul, Int.reduceSub, reduceCtorEq]) <;> with_reducible rfl))
    refine W2_sra (by (conv => lhs; simp only [go_sem, ibin, ishift, reduceIte, Int.reduceToNat, Int.reduceLT, Int.reduceLE, Nat.reduceLeDiff, Nat.reduceLT, Nat.reduceSub, Nat.reduceAdd, Nat.reduceMul, Nat.reduceDiv, Nat.reduceEqDiff, Nat.reduceBEq, Int.reduceAdd, Int.reduceNeg, Int.reduceEq, Int.reduceMul, Int.reduceSub, reduceCtorEq]) <;> with_reducible rfl) ?_
    refine W2.wview [] (by decide) rfl (by (conv => lhs; simp only [go_sem, ibin, ishift, reduceIte, Int.reduceToNat, Int.reduceLT, Int.reduceLE, Nat.reduceLeDiff, Nat.reduceLT, Nat.reduceSub, Nat.reduceAdd, Nat.reduceMul, Nat.reduceDiv, Nat.reduceEqDiff, Nat.reduceBEq, Int.reduceAdd, Int.reduceNeg, Int.reduceEq, Int.reduceMul, Int.reduceSub, reduceCtorEq]) <;> with_reducible rfl) (by (conv => lhs; simp only [go_sem, ibin, ishift, reduceIte, Int.reduceToNat, Int.reduceLT, Int.reduceLE, Nat.reduceLeDiff, Nat.reduceLT, Nat.reduceSub, Nat.reduceAdd, Nat.reduceMul, Nat.reduceDiv, Nat.reduceEqDiff, Nat.reduceBEq, Int.reduceAdd, Int.reduceNeg, Int.reduceEq, Int.reduceMul, Int.reduceSub, reduceCtorEq]) <;> with_reducible rfl) ?_
    refine W2.wnil 6 1 rfl (by (conv => lhs; simp only [go_sem, ibin, ishift, reduceIte, Int.reduceToNat, Int.reduceLT, Int.reduceLE, Nat.reduceLeDiff, Nat.reduceLT, Nat.reduceSub, Nat.reduceAdd, Nat.reduceMul, Nat.reduceDiv, Nat.reduceEqDiff, Nat.reduceBEq, Int.reduceAdd, Int.reduceNeg, Int.reduceEq, Int.reduceMul, Int.reduceSub, reduceCtorEq]) <;> with_reducible rfl) (by (conv => lhs; simp only [go_sem, ibin, ishift, reduceIte, Int.reduceToNat, Int.reduceLT, Int.reduceLE, Nat.reduceLeDiff, Nat.reduceLT, Nat.reduceSub, Nat.reduceAdd, Nat.reduceMul, Nat.reduceDiv, Nat.reduceEqDiff, Nat.reduceBEq, Int.reduceAdd, Int.reduceNeg, Int.reduceEq, Int.reduceMul, Int.reduceSub, reduceCtorEq]) <;> with_reducible rfl) ?_
    repeat' (first
    | with_reducible refine thn2_nrm ?_
    | with_reducible refine thn2_ret ?_
    | with_reducible refine thn2_ex ?_
    | with_reducible refine blk2_nrm ?_
    | with_reducible refine blk2_ret ?_
    | with_reducible refine blk2_at ?_
    | (with_reducible refine blk2_ex ?_ ?_; decide)
    | with_reducible refine W2_sas ?_
    | with_reducible refine W2_ss ?_
    | with_reducible refine W2_sret ?_
    | with_reducible refine W2_sexit ?_
    | ((first | with_reducible apply W2_sra | with_reducible apply W2_srda | with_reducible apply W2_runa | with_reducible apply W2_runda); ((conv => lhs; simp only [go_sem, ibin, ishift, reduceIte, Int.reduceToNat, Int.reduceLT, Int.reduceLE, Nat.reduceLeDiff, Nat.reduceLT, Nat.reduceSub, Nat.reduceAdd, Nat.reduceMul, Nat.reduceDiv, Nat.reduceEqDiff, Nat.reduceBEq, Int.reduceAdd, Int.reduceNeg, Int.reduceEq, Int.reduceMul, Int.reduceSub, reduceCtorEq]) <;> with_reducible rfl))
    | ((first | with_reducible apply W2_sct | with_reducible apply W2_t2); ((conv => lhs; simp only [evs, eg, Nat.reduceEqDiff, if_true, if_false, reduceIte, Bool.not_true, Bool.not_false]) <;> with_reducible rfl); with_reducible rfl)
    | ((first | with_reducible apply W2_scf | with_reducible apply W2_f2); ((conv => lhs; simp only [evs, eg, Nat.reduceEqDiff, if_true, if_false, reduceIte, Bool.not_true, Bool.not_false]) <;> with_reducible rfl); with_reducible rfl)
    | with_reducible refine W2_ret ?_
    | with_reducible refine W2_exit ?_
    | with_reducible refine W2_skip ?_
    | with_reducible refine W2_seq ?_
    | with_reducible refine W2_block ?_)
    refine W2_loopv (fun m e h => ∃ j, j + m = l.length ∧ (∀ n ∈ l.take j, goodN n) ∧ e = [(0, .fz 4 (l.map cN)), (3, .fz 4 (l.map cN)), (4, .nils), (5, .i .i64 180), (6, .sl 1 0 0 (encsB (l.take j)).length none), (25, .i .i64 l.length), (26, .i .i64 j)] ∧ h = [some (.arr 1 ((encsB (l.take j)).map c8))]) l.length ⟨0, by omega, by simp, rfl, rfl⟩ ?_
    rintro m e h ⟨j, hj, hgood, rfl, rfl⟩
    repeat' (first
    | with_reducible refine thn2_nrm ?_
    | with_reducible refine thn2_ret ?_
    | with_reducible refine thn2_ex ?_
    | with_reducible refine blk2_nrm ?_
    | with_reducible refine blk2_ret ?_
    | with_reducible refine blk2_at ?_
    | (with_reducible refine blk2_ex ?_ ?_; decide)
    | with_reducible refine W2_sas ?_
    | with_reducible refine W2_ss ?_
    | with_reducible refine W2_sret ?_
    | with_reducible refine W2_sexit ?_
    | ((first | with_reducible apply W2_sra | with_reducible apply W2_srda | with_reducible apply W2_runa | with_reducible apply W2_runda); ((conv => lhs; simp only [go_sem, ibin, ishift, reduceIte, Int.reduceToNat, Int.reduceLT, Int.reduceLE, Nat.reduceLeDiff, Nat.reduceLT, Nat.reduceSub, Nat.reduceAdd, Nat.reduceMul, Nat.reduceDiv, Nat.reduceEqDiff, Nat.reduceBEq, Int.reduceAdd, Int.reduceNeg, Int.reduceEq, Int.reduceMul, Int.reduceSub, reduceCtorEq]) <;> with_reducible rfl))
    | ((first | with_reducible apply W2_sct | with_reducible apply W2_t2); ((conv => lhs; simp only [evs, eg, Nat.reduceEqDiff, if_true, if_false, reduceIte, Bool.not_true, Bool.not_false]) <;> with_reducible rfl); with_reducible rfl)
    | ((first | with_reducible apply W2_scf | with_reducible apply W2_f2); ((conv => lhs; simp only [evs, eg, Nat.reduceEqDiff, if_true, if_false, reduceIte, Bool.not_true, Bool.not_false]) <;> with_reducible rfl); with_reducible rfl)
    | with_reducible refine W2_ret ?_
    | with_reducible refine W2_exit ?_
    | with_reducible refine W2_skip ?_
    | with_reducible refine W2_seq ?_
    | with_reducible refine W2_block ?_)
    (((first | with_reducible apply W2_sc | with_reducible apply W2_cond); ((conv => lhs; simp only [evs, eg, Nat.reduceEqDiff, if_true, if_false, reduceIte, Bool.not_true, Bool.not_false]) <;> with_reducible rfl)) <;> intro hx <;> (try rw [hx]) <;> simp only [Bool.or_eq_true, Bool.and_eq_true, decide_eq_true_eq, Bool.or_eq_false_iff, Bool.and_eq_false_iff, decide_eq_false_iff_not, Bool.not_eq_true', Bool.not_eq_false', bne_iff_ne, beq_iff_eq, not_or, not_and, Decidable.not_not, ne_eq, gt_iff_lt, ge_iff_le, Int.not_lt, Int.not_le] at hx)
    · have hjl : j < l.length := by omega
      have hg := List.getElem?_eq_getElem hjl
      have hm := List.getElem_mem hjl
      have hlen := encsB_le hgood
      have htl : (l.take j).length = j := by simp; omega
      have hs := encsB_take hjl
      have htk : l.take (j + 1) = l.take j ++ [l[j]] := by rw [List.take_add_one, List.getElem?_eq_getElem hjl]; rfl
      generalize hn : l[j] = n at hg hm hs htk
      repeat' (first
    | with_reducible refine thn2_nrm ?_
    | with_reducible refine thn2_ret ?_
    | with_reducible refine thn2_ex ?_
    | with_reducible refine blk2_nrm ?_
    | with_reducible refine blk2_ret ?_
    | with_reducible refine blk2_at ?_
    | (with_reducible refine blk2_ex ?_ ?_; decide)
    | with_reducible refine W2_sas ?_
    | with_reducible refine W2_ss ?_
    | with_reducible refine W2_sret ?_
    | with_reducible refine W2_sexit ?_
    | ((first | with_reducible apply W2_sra | with_reducible apply W2_srda | with_reducible apply W2_runa | with_reducible apply W2_runda); ((conv => lhs; simp only [go_sem, ibin, ishift, reduceIte, Int.reduceToNat, Int.reduceLT, Int.reduceLE, Nat.reduceLeDiff, Nat.reduceLT, Nat.reduceSub, Nat.reduceAdd, Nat.reduceMul, Nat.reduceDiv, Nat.reduceEqDiff, Nat.reduceBEq, Int.reduceAdd, Int.reduceNeg, Int.reduceEq, Int.reduceMul, Int.reduceSub, reduceCtorEq]) <;> with_reducible rfl))
    | ((first | with_reducible apply W2_sct | with_reducible apply W2_t2); ((conv => lhs; simp only [evs, eg, Nat.reduceEqDiff, if_true, if_false, reduceIte, Bool.not_true, Bool.not_false]) <;> with_reducible rfl); with_reducible rfl)
    | ((first | with_reducible apply W2_scf | with_reducible apply W2_f2); ((conv => lhs; simp only [evs, eg, Nat.reduceEqDiff, if_true, if_false, reduceIte, Bool.not_true, Bool.not_false]) <;> with_reducible rfl); with_reducible rfl)
    | with_reducible refine W2_ret ?_
    | with_reducible refine W2_exit ?_
    | with_reducible refine W2_skip ?_
    | with_reducible refine W2_seq ?_
    | with_reducible refine W2_block ?_)
      ((first | with_reducible apply W2_scall | with_reducible apply W2_scalld | with_reducible apply W2_calla | with_reducible apply W2_callda); ((conv => lhs; simp only [go_sem, ibin, ishift, reduceIte, Int.reduceToNat, Int.reduceLT, Int.reduceLE, Nat.reduceLeDiff, Nat.reduceLT, Nat.reduceSub, Nat.reduceAdd, Nat.reduceMul, Nat.reduceDiv, Nat.reduceEqDiff, Nat.reduceBEq, Int.reduceAdd, Int.reduceNeg, Int.reduceEq, Int.reduceMul, Int.reduceSub, reduceCtorEq, hg, cN]) <;> with_reducible rfl))
      refine CK_pure (refgood_spec t.toTabR n) rfl ?_
      rintro v h' ⟨rfl, rfl⟩
      rcases Decidable.em (goodN n) with g | g
      · have hroom : (encsB (l.take j)).length + (encB n).length ≤ room := by
          have := (encB_le g).1
          simp only [room]; omega
        rw [decide_eq_true g]
        ((first | with_reducible apply WO2_finw | with_reducible apply WO2_fina); ((conv => lhs; simp only [go_sem, ibin, ishift, reduceIte, Int.reduceToNat, Int.reduceLT, Int.reduceLE, Nat.reduceLeDiff, Nat.reduceLT, Nat.reduceSub, Nat.reduceAdd, Nat.reduceMul, Nat.reduceDiv, Nat.reduceEqDiff, Nat.reduceBEq, Int.reduceAdd, Int.reduceNeg, Int.reduceEq, Int.reduceMul, Int.reduceSub, reduceCtorEq]) <;> with_reducible rfl))
        repeat' (first
    | with_reducible refine thn2_nrm ?_
    | with_reducible refine thn2_ret ?_
    | with_reducible refine thn2_ex ?_
    | with_reducible refine blk2_nrm ?_
    | with_reducible refine blk2_ret ?_
    | with_reducible refine blk2_at ?_
    | (with_reducible refine blk2_ex ?_ ?_; decide)
    | with_reducible refine W2_sas ?_
    | with_reducible refine W2_ss ?_
    | with_reducible refine W2_sret ?_
    | with_reducible refine W2_sexit ?_
    | ((first | with_reducible apply W2_sra | with_reducible apply W2_srda | with_reducible apply W2_runa | with_reducible apply W2_runda); ((conv => lhs; simp only [go_sem, ibin, ishift, reduceIte, Int.reduceToNat, Int.reduceLT, Int.reduceLE, Nat.reduceLeDiff, Nat.reduceLT, Nat.reduceSub, Nat.reduceAdd, Nat.reduceMul, Nat.reduceDiv, Nat.reduceEqDiff, Nat.reduceBEq, Int.reduceAdd, Int.reduceNeg, Int.reduceEq, Int.reduceMul, Int.reduceSub, reduceCtorEq]) <;> with_reducible rfl))
    | ((first | with_reducible apply W2_sct | with_reducible apply W2_t2); ((conv => lhs; simp only [evs, eg, Nat.reduceEqDiff, if_true, if_false, reduceIte, Bool.not_true, Bool.not_false]) <;> with_reducible rfl); with_reducible rfl)
    | ((first | with_reducible apply W2_scf | with_reducible apply W2_f2); ((conv => lhs; simp only [evs, eg, Nat.reduceEqDiff, if_true, if_false, reduceIte, Bool.not_true, Bool.not_false]) <;> with_reducible rfl); with_reducible rfl)
    | with_reducible refine W2_ret ?_
    | with_reducible refine W2_exit ?_
    | with_reducible refine W2_skip ?_
    | with_reducible refine W2_seq ?_
    | with_reducible refine W2_block ?_)
        ((first | with_reducible apply W2_scall | with_reducible apply W2_scalld | with_reducible apply W2_calla | with_reducible apply W2_callda); ((conv => lhs; simp only [go_sem, ibin, ishift, reduceIte, Int.reduceToNat, Int.reduceLT, Int.reduceLE, Nat.reduceLeDiff, Nat.reduceLT, Nat.reduceSub, Nat.reduceAdd, Nat.reduceMul, Nat.reduceDiv, Nat.reduceEqDiff, Nat.reduceBEq, Int.reduceAdd, Int.reduceNeg, Int.reduceEq, Int.reduceMul, Int.reduceSub, reduceCtorEq, hg, cN]) <;> with_reducible rfl))
        refine CK_pure (refbytes_spec t.toTabR n g) rfl ?_
        rintro v h' ⟨rfl, rfl⟩
        ((first | with_reducible apply WO2_finw | with_reducible apply WO2_fina); ((conv => lhs; simp only [go_sem, ibin, ishift, reduceIte, Int.reduceToNat, Int.reduceLT, Int.reduceLE, Nat.reduceLeDiff, Nat.reduceLT, Nat.reduceSub, Nat.reduceAdd, Nat.reduceMul, Nat.reduceDiv, Nat.reduceEqDiff, Nat.reduceBEq, Int.reduceAdd, Int.reduceNeg, Int.reduceEq, Int.reduceMul, Int.reduceSub, reduceCtorEq, hroom]) <;> with_reducible rfl))
        repeat' (first
    | with_reducible refine thn2_nrm ?_
    | with_reducible refine thn2_ret ?_
    | with_reducible refine thn2_ex ?_
    | with_reducible refine blk2_nrm ?_
    | with_reducible refine blk2_ret ?_
    | with_reducible refine blk2_at ?_
    | (with_reducible refine blk2_ex ?_ ?_; decide)
    | with_reducible refine W2_sas ?_
    | with_reducible refine W2_ss ?_
    | with_reducible refine W2_sret ?_
    | with_reducible refine W2_sexit ?_
    | ((first | with_reducible apply W2_sra | with_reducible apply W2_srda | with_reducible apply W2_runa | with_reducible apply W2_runda); ((conv => lhs; simp only [go_sem, ibin, ishift, reduceIte, Int.reduceToNat, Int.reduceLT, Int.reduceLE, Nat.reduceLeDiff, Nat.reduceLT, Nat.reduceSub, Nat.reduceAdd, Nat.reduceMul, Nat.reduceDiv, Nat.reduceEqDiff, Nat.reduceBEq, Int.reduceAdd, Int.reduceNeg, Int.reduceEq, Int.reduceMul, Int.reduceSub, reduceCtorEq, wS (show j < 9223372036854775807 by omega)]) <;> with_reducible rfl))
    | ((first | with_reducible apply W2_sct | with_reducible apply W2_t2); ((conv => lhs; simp only [evs, eg, Nat.reduceEqDiff, if_true, if_false, reduceIte, Bool.not_true, Bool.not_false]) <;> with_reducible rfl); with_reducible rfl)
    | ((first | with_reducible apply W2_scf | with_reducible apply W2_f2); ((conv => lhs; simp only [evs, eg, Nat.reduceEqDiff, if_true, if_false, reduceIte, Bool.not_true, Bool.not_false]) <;> with_reducible rfl); with_reducible rfl)
    | with_reducible refine W2_ret ?_
    | with_reducible refine W2_exit ?_
    | with_reducible refine W2_skip ?_
    | with_reducible refine W2_seq ?_
    | with_reducible refine W2_block ?_)
        refine ⟨[2], by decide, rfl, ?_⟩
        refine ⟨l.length - (j + 1), by omega, j + 1, by omega, fun n' hn' => ?_, (by rw [hs, List.length_append]; first | rfl | ((conv => lhs; simp only [go_sem, ibin, ishift, reduceIte, Int.reduceToNat, Int.reduceLT, Int.reduceLE, Nat.reduceLeDiff, Nat.reduceLT, Nat.reduceSub, Nat.reduceAdd, Nat.reduceMul, Nat.reduceDiv, Nat.reduceEqDiff, Nat.reduceBEq, Int.reduceAdd, Int.reduceNeg, Int.reduceEq, Int.reduceMul, Int.reduceSub, reduceCtorEq]) <;> rfl)), (by rw [hs, List.map_append]; first | rfl | ((conv => lhs; simp only [go_sem, ibin, ishift, reduceIte, Int.reduceToNat, Int.reduceLT, Int.reduceLE, Nat.reduceLeDiff, Nat.reduceLT, Nat.reduceSub, Nat.reduceAdd, Nat.reduceMul, Nat.reduceDiv, Nat.reduceEqDiff, Nat.reduceBEq, Int.reduceAdd, Int.reduceNeg, Int.reduceEq, Int.reduceMul, Int.reduceSub, reduceCtorEq]) <;> rfl))⟩
        rw [htk] at hn'
        rcases List.mem_append.1 hn' with h | h
        · exact hgood _ h
        · rw [List.mem_singleton.1 h]; exact g
      · rw [decide_eq_false g]
        ((first | with_reducible apply WO2_finw | with_reducible apply WO2_fina); ((conv => lhs; simp only [go_sem, ibin, ishift, reduceIte, Int.reduceToNat, Int.reduceLT, Int.reduceLE, Nat.reduceLeDiff, Nat.reduceLT, Nat.reduceSub, Nat.reduceAdd, Nat.reduceMul, Nat.reduceDiv, Nat.reduceEqDiff, Nat.reduceBEq, Int.reduceAdd, Int.reduceNeg, Int.reduceEq, Int.reduceMul, Int.reduceSub, reduceCtorEq]) <;> with_reducible rfl))
        repeat' (first
    | with_reducible refine thn2_nrm ?_
    | with_reducible refine thn2_ret ?_
    | with_reducible refine thn2_ex ?_
    | with_reducible refine blk2_nrm ?_
    | with_reducible refine blk2_ret ?_
    | with_reducible refine blk2_at ?_
    | (with_reducible refine blk2_ex ?_ ?_; decide)
    | with_reducible refine W2_sas ?_
    | with_reducible refine W2_ss ?_
    | with_reducible refine W2_sret ?_
    | with_reducible refine W2_sexit ?_
    | ((first | with_reducible apply W2_sra | with_reducible apply W2_srda | with_reducible apply W2_runa | with_reducible apply W2_runda); ((conv => lhs; simp only [go_sem, ibin, ishift, reduceIte, Int.reduceToNat, Int.reduceLT, Int.reduceLE, Nat.reduceLeDiff, Nat.reduceLT, Nat.reduceSub, Nat.reduceAdd, Nat.reduceMul, Nat.reduceDiv, Nat.reduceEqDiff, Nat.reduceBEq, Int.reduceAdd, Int.reduceNeg, Int.reduceEq, Int.reduceMul, Int.reduceSub, reduceCtorEq]) <;> with_reducible rfl))
    | ((first | with_reducible apply W2_sct | with_reducible apply W2_t2); ((conv => lhs; simp only [evs, eg, Nat.reduceEqDiff, if_true, if_false, reduceIte, Bool.not_true, Bool.not_false]) <;> with_reducible rfl); with_reducible rfl)
    | ((first | with_reducible apply W2_scf | with_reducible apply W2_f2); ((conv => lhs; simp only [evs, eg, Nat.reduceEqDiff, if_true, if_false, reduceIte, Bool.not_true, Bool.not_false]) <;> with_reducible rfl); with_reducible rfl)
    | with_reducible refine W2_ret ?_
    | with_reducible refine W2_exit ?_
    | with_reducible refine W2_skip ?_
    | with_reducible refine W2_seq ?_
    | with_reducible refine W2_block ?_)
        refine ⟨by first | exact .inr rfl | exact .inl rfl, _, _, (by (conv => lhs; simp only [go_sem, ibin, ishift, reduceIte, Int.reduceToNat, Int.reduceLT, Int.reduceLE, Nat.reduceLeDiff, Nat.reduceLT, Nat.reduceSub, Nat.reduceAdd, Nat.reduceMul, Nat.reduceDiv, Nat.reduceEqDiff, Nat.reduceBEq, Int.reduceAdd, Int.reduceNeg, Int.reduceEq, Int.reduceMul, Int.reduceSub, reduceCtorEq]) <;> with_reducible rfl), (by (conv => lhs; simp only [go_sem, ibin, ishift, reduceIte, Int.reduceToNat, Int.reduceLT, Int.reduceLE, Nat.reduceLeDiff, Nat.reduceLT, Nat.reduceSub, Nat.reduceAdd, Nat.reduceMul, Nat.reduceDiv, Nat.reduceEqDiff, Nat.reduceBEq, Int.reduceAdd, Int.reduceNeg, Int.reduceEq, Int.reduceMul, Int.reduceSub, reduceCtorEq]) <;> with_reducible rfl), ?_⟩
        refine ⟨[], by decide, rfl, ?_⟩
        rfl
    · have : j = l.length := by omega
      subst this
      rw [List.take_length] at hgood
      exact (hall hgood).elim
end Go.Proofs.Ytdcknhimmdmgoaa.Ab
