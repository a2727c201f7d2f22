/- Chapter 18: laws over the machine: NoteBack, NoteCut. -/
import Derived.Test.YtdcknhimmdmgoaaY18j
namespace Go.Proofs.Ytdcknhimmdmgoaa.Ab
open Go
set_option linter.unusedVariables false
set_option linter.unusedSimpArgs false
variable {T : AT}
theorem enc_not_nil {n : Nt} (hg : goodN n) : ¬ encB n <+: [] := fun h => by
  have h1 := h.length_le
  have := (encB_le hg).2
  rw [List.length_nil] at h1; omega
theorem readR_encs {l : List Nt} (h : ∀ n ∈ l, goodN n) : ReadR (encsB l) l :=
  ⟨h, List.prefix_refl _, fun n hg => by rw [List.drop_length]; exact enc_not_nil hg⟩
theorem encs_len4 : ∀ {l : List Nt}, (∀ n ∈ l, goodN n) → 4 * l.length ≤ (encsB l).length
  | [], _ => by simp
  | n :: l, hg => by
    have := encs_len4 fun m hm => hg m (.tail _ hm)
    have := (encB_le (hg n (.head _))).2
    rw [encs_cons]; simp only [List.length_append, List.length_cons]; omega
theorem encs_nil {l : List Nt} (h : ∀ n ∈ l, goodN n) (h0 : (encsB l).length = 0) : l = [] := by
  have := encs_len4 h
  match l, this with
  | [], _ => rfl
  | n :: l, h => simp at h; omega
theorem noteBack_law (t : TabL18 T) (hT : T i_stillagelaw18_NoteBack = some (.fn c_stillagelaw18_NoteBack)) (b : List UInt8) : Ret2 T 0 i_stillagelaw18_NoteBack [.fz 1 (b.map c8)] [] (fun v h' => v = .b true) := by
  refine Ret2_fnv hT rfl rfl ?_
  repeat' (first
    | with_reducible refine thn2_nrm ?_
    | with_reducible refine thn2_ret ?_
    | with_reducible refine thn2_ex ?_
    | with_reducible refine blk2_nrm ?_
    | with_reducible refine blk2_ret ?_
    | with_reducible refine blk2_at ?_
    | (with_reducible refine blk2_ex ?_ ?_; decide)
    | with_reducible refine W2_sas ?_
    | with_reducible refine W2_ss ?_
    | with_reducible refine W2_sret ?_
    | with_reducible refine W2_sexit ?_
    | ((first | with_reducible apply W2_sra | with_reducible apply W2_srda | with_reducible apply W2_runa | with_reducible apply W2_runda); ((conv => lhs; simp only [go_sem, ibin, ishift, reduceIte, Int.reduceToNat, Int.reduceLT, Int.reduceLE, Nat.reduceLeDiff, Nat.reduceLT, Nat.reduceSub, Nat.reduceAdd, Nat.reduceMul, Nat.reduceDiv, Nat.reduceEqDiff, Nat.reduceBEq, Int.reduceAdd, Int.reduceNeg, Int.reduceEq, Int.reduceMul, Int.reduceSub, reduceCtorEq]) <;> with_reducible rfl))
    | ((first | with_reducible apply W2_sct | with_reducible apply W2_t2); ((conv => lhs; simp only [evs, eg, Nat.reduceEqDiff, if_true, if_false, reduceIte, Bool.not_true, Bool.not_false]) <;> with_reducible rfl); with_reducible rfl)
    | ((first | with_reducible apply W2_scf | with_reducible apply W2_f2); ((conv => lhs; simp only [evs, eg, Nat.reduceEqDiff, if_true, if_false, reduceIte, Bool.not_true, Bool.not_false]) <;> with_reducible rfl); with_reducible rfl)
    | with_reducible refine W2_ret ?_
    | with_reducible refine W2_exit ?_
    | with_reducible refine W2_skip ?_
    | with_reducible refine W2_seq ?_
    | with_reducible refine W2_block ?_)
  ((first | with_reducible apply W2_scall | with_reducible apply W2_scalld | with_reducible apply W2_calla | with_reducible apply W2_callda); ((conv => lhs; simp only [go_sem, ibin, ishift, reduceIte, Int.reduceToNat, Int.reduceLT, Int.reduceLE, Nat.reduceLeDiff, Nat.reduceLT, Nat.reduceSub, Nat.reduceAdd, Nat.reduceMul, Nat.reduceDiv, Nat.reduceEqDiff, Nat.reduceBEq, Int.reduceAdd, Int.reduceNeg, Int.reduceEq, Int.reduceMul, Int.reduceSub, reduceCtorEq]) <;> with_reducible rfl))
  refine CK_pure (always_spec t.awake) rfl ?_
  rintro v h' ⟨rfl, rfl⟩
  by_cases hlen : ((b.length : Nat) : Int) > 5000
  · have hd : decide (((b.length : Nat) : Int) > 5000) = true := decide_eq_true hlen
    ((first | with_reducible apply WO2_finw | with_reducible apply WO2_fina); ((conv => lhs; simp only [go_sem, ibin, ishift, reduceIte, Int.reduceToNat, Int.reduceLT, Int.reduceLE, Nat.reduceLeDiff, Nat.reduceLT, Nat.reduceSub, Nat.reduceAdd, Nat.reduceMul, Nat.reduceDiv, Nat.reduceEqDiff, Nat.reduceBEq, Int.reduceAdd, Int.reduceNeg, Int.reduceEq, Int.reduceMul, Int.reduceSub, reduceCtorEq, hd]) <;> with_reducible rfl))
    repeat' (first
    | with_reducible refine thn2_nrm ?_
    | with_reducible refine thn2_ret ?_
    | with_reducible refine thn2_ex ?_
    | with_reducible refine blk2_nrm ?_
    | with_reducible refine blk2_ret ?_
    | with_reducible refine blk2_at ?_
    | (with_reducible refine blk2_ex ?_ ?_; decide)
    | with_reducible refine W2_sas ?_
    | with_reducible refine W2_ss ?_
    | with_reducible refine W2_sret ?_
    | with_reducible refine W2_sexit ?_
    | ((first | with_reducible apply W2_sra | with_reducible apply W2_srda | with_reducible apply W2_runa | with_reducible apply W2_runda); ((conv => lhs; simp only [go_sem, ibin, ishift, reduceIte, Int.reduceToNat, Int.reduceLT, Int.reduceLE, Nat.reduceLeDiff, Nat.reduceLT, Nat.reduceSub, Nat.reduceAdd, Nat.reduceMul, Nat.reduceDiv, Nat.reduceEqDiff, Nat.reduceBEq, Int.reduceAdd, Int.reduceNeg, Int.reduceEq, Int.reduceMul, Int.reduceSub, reduceCtorEq]) <;> with_reducible rfl))
    | ((first | with_reducible apply W2_sct | with_reducible apply W2_t2); ((conv => lhs; simp only [evs, eg, Nat.reduceEqDiff, if_true, if_false, reduceIte, Bool.not_true, Bool.not_false]) <;> with_reducible rfl); with_reducible rfl)
    | ((first | with_reducible apply W2_scf | with_reducible apply W2_f2); ((conv => lhs; simp only [evs, eg, Nat.reduceEqDiff, if_true, if_false, reduceIte, Bool.not_true, Bool.not_false]) <;> with_reducible rfl); with_reducible rfl)
    | with_reducible refine W2_ret ?_
    | with_reducible refine W2_exit ?_
    | with_reducible refine W2_skip ?_
    | with_reducible refine W2_seq ?_
    | with_reducible refine W2_block ?_)
    ((first | with_reducible apply W2_scall | with_reducible apply W2_scalld | with_reducible apply W2_calla | with_reducible apply W2_callda); ((conv => lhs; simp only [go_sem, ibin, ishift, reduceIte, Int.reduceToNat, Int.reduceLT, Int.reduceLE, Nat.reduceLeDiff, Nat.reduceLT, Nat.reduceSub, Nat.reduceAdd, Nat.reduceMul, Nat.reduceDiv, Nat.reduceEqDiff, Nat.reduceBEq, Int.reduceAdd, Int.reduceNeg, Int.reduceEq, Int.reduceMul, Int.reduceSub, reduceCtorEq]) <;> with_reducible rfl))
    refine CK_pure (always_spec t.awake) rfl ?_
    rintro v h' ⟨rfl, rfl⟩
    ((first | with_reducible apply WO2_finw | with_reducible apply WO2_fina); ((conv => lhs; simp only [go_sem, ibin, ishift, reduceIte, Int.reduceToNat, Int.reduceLT, Int.reduceLE, Nat.reduceLeDiff, Nat.reduceLT, Nat.reduceSub, Nat.reduceAdd, Nat.reduceMul, Nat.reduceDiv, Nat.reduceEqDiff, Nat.reduceBEq, Int.reduceAdd, Int.reduceNeg, Int.reduceEq, Int.reduceMul, Int.reduceSub, reduceCtorEq]) <;> with_reducible rfl))
    repeat' (first
    | with_reducible refine thn2_nrm ?_
    | with_reducible refine thn2_ret ?_
    | with_reducible refine thn2_ex ?_
    | with_reducible refine blk2_nrm ?_
    | with_reducible refine blk2_ret ?_
    | with_reducible refine blk2_at ?_
    | (with_reducible refine blk2_ex ?_ ?_; decide)
    | with_reducible refine W2_sas ?_
    | with_reducible refine W2_ss ?_
    | with_reducible refine W2_sret ?_
    | with_reducible refine W2_sexit ?_
    | ((first | with_reducible apply W2_sra | with_reducible apply W2_srda | with_reducible apply W2_runa | with_reducible apply W2_runda); ((conv => lhs; simp only [go_sem, ibin, ishift, reduceIte, Int.reduceToNat, Int.reduceLT, Int.reduceLE, Nat.reduceLeDiff, Nat.reduceLT, Nat.reduceSub, Nat.reduceAdd, Nat.reduceMul, Nat.reduceDiv, Nat.reduceEqDiff, Nat.reduceBEq, Int.reduceAdd, Int.reduceNeg, Int.reduceEq, Int.reduceMul, Int.reduceSub, reduceCtorEq]) <;> with_reducible rfl))
    | ((first | with_reducible apply W2_sct | with_reducible apply W2_t2); ((conv => lhs; simp only [evs, eg, Nat.reduceEqDiff, if_true, if_false, reduceIte, Bool.not_true, Bool.not_false]) <;> with_reducible rfl); with_reducible rfl)
    | ((first | with_reducible apply W2_scf | with_reducible apply W2_f2); ((conv => lhs; simp only [evs, eg, Nat.reduceEqDiff, if_true, if_false, reduceIte, Bool.not_true, Bool.not_false]) <;> with_reducible rfl); with_reducible rfl)
    | with_reducible refine W2_ret ?_
    | with_reducible refine W2_exit ?_
    | with_reducible refine W2_skip ?_
    | with_reducible refine W2_seq ?_
    | with_reducible refine W2_block ?_)
    refine ⟨by first | exact .inr rfl | exact .inl rfl, _, _, (by (conv => lhs; simp only [go_sem, ibin, ishift, reduceIte, Int.reduceToNat, Int.reduceLT, Int.reduceLE, Nat.reduceLeDiff, Nat.reduceLT, Nat.reduceSub, Nat.reduceAdd, Nat.reduceMul, Nat.reduceDiv, Nat.reduceEqDiff, Nat.reduceBEq, Int.reduceAdd, Int.reduceNeg, Int.reduceEq, Int.reduceMul, Int.reduceSub, reduceCtorEq]) <;> with_reducible rfl), (by (conv => lhs; simp only [go_sem, ibin, ishift, reduceIte, Int.reduceToNat, Int.reduceLT, Int.reduceLE, Nat.reduceLeDiff, Nat.reduceLT, Nat.reduceSub, Nat.reduceAdd, Nat.reduceMul, Nat.reduceDiv, Nat.reduceEqDiff, Nat.reduceBEq, Int.reduceAdd, Int.reduceNeg, Int.reduceEq, Int.reduceMul, Int.reduceSub, reduceCtorEq]) <;> with_reducible rfl), ?_⟩
    refine ⟨[], by decide, rfl, ?_⟩
    rfl
  have hd : decide (((b.length : Nat) : Int) > 5000) = false := decide_eq_false hlen
  have hb : b.length ≤ 5000 := by omega
  ((first | with_reducible apply WO2_finw | with_reducible apply WO2_fina); ((conv => lhs; simp only [go_sem, ibin, ishift, reduceIte, Int.reduceToNat, Int.reduceLT, Int.reduceLE, Nat.reduceLeDiff, Nat.reduceLT, Nat.reduceSub, Nat.reduceAdd, Nat.reduceMul, Nat.reduceDiv, Nat.reduceEqDiff, Nat.reduceBEq, Int.reduceAdd, Int.reduceNeg, Int.reduceEq, Int.reduceMul, Int.reduceSub, reduceCtorEq, hd]) <;> with_reducible rfl))
  repeat' (first
    | with_reducible refine thn2_nrm ?_
    | with_reducible refine thn2_ret ?_
    | with_reducible refine thn2_ex ?_
    | with_reducible refine blk2_nrm ?_
    | with_reducible refine blk2_ret ?_
    | with_reducible refine blk2_at ?_
    | (with_reducible refine blk2_ex ?_ ?_; decide)
    | with_reducible refine W2_sas ?_
    | with_reducible refine W2_ss ?_
    | with_reducible refine W2_sret ?_
    | with_reducible refine W2_sexit ?_
    | ((first | with_reducible apply W2_sra | with_reducible apply W2_srda | with_reducible apply W2_runa | with_reducible apply W2_runda); ((conv => lhs; simp only [go_sem, ibin, ishift, reduceIte, Int.reduceToNat, Int.reduceLT, Int.reduceLE, Nat.reduceLeDiff, Nat.reduceLT, Nat.reduceSub, Nat.reduceAdd, Nat.reduceMul, Nat.reduceDiv, Nat.reduceEqDiff, Nat.reduceBEq, Int.reduceAdd, Int.reduceNeg, Int.reduceEq, Int.reduceMul, Int.reduceSub, reduceCtorEq]) <;> with_reducible rfl))
    | ((first | with_reducible apply W2_sct | with_reducible apply W2_t2); ((conv => lhs; simp only [evs, eg, Nat.reduceEqDiff, if_true, if_false, reduceIte, Bool.not_true, Bool.not_false]) <;> with_reducible rfl); with_reducible rfl)
    | ((first | with_reducible apply W2_scf | with_reducible apply W2_f2); ((conv => lhs; simp only [evs, eg, Nat.reduceEqDiff, if_true, if_false, reduceIte, Bool.not_true, Bool.not_false]) <;> with_reducible rfl); with_reducible rfl)
    | with_reducible refine W2_ret ?_
    | with_reducible refine W2_exit ?_
    | with_reducible refine W2_skip ?_
    | with_reducible refine W2_seq ?_
    | with_reducible refine W2_block ?_)
  ((first | with_reducible apply W2_scall | with_reducible apply W2_scalld | with_reducible apply W2_calla | with_reducible apply W2_callda); ((conv => lhs; simp only [go_sem, ibin, ishift, reduceIte, Int.reduceToNat, Int.reduceLT, Int.reduceLE, Nat.reduceLeDiff, Nat.reduceLT, Nat.reduceSub, Nat.reduceAdd, Nat.reduceMul, Nat.reduceDiv, Nat.reduceEqDiff, Nat.reduceBEq, Int.reduceAdd, Int.reduceNeg, Int.reduceEq, Int.reduceMul, Int.reduceSub, reduceCtorEq]) <;> with_reducible rfl))
  refine CK_pure (read_spec t.toTabN b (by omega)) rfl ?_
  rintro v h' ⟨l, hl, rfl, rfl⟩
  have hgood := hl.1
  have h4 := encs_len4 hgood
  have hpre := hl.2.1.length_le
  have htake : b.take (encsB l).length = encsB l := (List.prefix_iff_eq_take.1 hl.2.1).symm
  ((first | with_reducible apply WO2_finw | with_reducible apply WO2_fina); ((conv => lhs; simp only [go_sem, ibin, ishift, reduceIte, Int.reduceToNat, Int.reduceLT, Int.reduceLE, Nat.reduceLeDiff, Nat.reduceLT, Nat.reduceSub, Nat.reduceAdd, Nat.reduceMul, Nat.reduceDiv, Nat.reduceEqDiff, Nat.reduceBEq, Int.reduceAdd, Int.reduceNeg, Int.reduceEq, Int.reduceMul, Int.reduceSub, reduceCtorEq]) <;> with_reducible rfl))
  refine W2.wfrz 0 rfl (by (conv => lhs; simp only [go_sem, ibin, ishift, reduceIte, Int.reduceToNat, Int.reduceLT, Int.reduceLE, Nat.reduceLeDiff, Nat.reduceLT, Nat.reduceSub, Nat.reduceAdd, Nat.reduceMul, Nat.reduceDiv, Nat.reduceEqDiff, Nat.reduceBEq, Int.reduceAdd, Int.reduceNeg, Int.reduceEq, Int.reduceMul, Int.reduceSub, reduceCtorEq]) <;> with_reducible rfl) (by (conv => lhs; simp only [go_sem, ibin, ishift, reduceIte, Int.reduceToNat, Int.reduceLT, Int.reduceLE, Nat.reduceLeDiff, Nat.reduceLT, Nat.reduceSub, Nat.reduceAdd, Nat.reduceMul, Nat.reduceDiv, Nat.reduceEqDiff, Nat.reduceBEq, Int.reduceAdd, Int.reduceNeg, Int.reduceEq, Int.reduceMul, Int.reduceSub, reduceCtorEq]) <;> with_reducible rfl) ?_
  repeat' (first
    | with_reducible refine thn2_nrm ?_
    | with_reducible refine thn2_ret ?_
    | with_reducible refine thn2_ex ?_
    | with_reducible refine blk2_nrm ?_
    | with_reducible refine blk2_ret ?_
    | with_reducible refine blk2_at ?_
    | (with_reducible refine blk2_ex ?_ ?_; decide)
    | with_reducible refine W2_sas ?_
    | with_reducible refine W2_ss ?_
    | with_reducible refine W2_sret ?_
    | with_reducible refine W2_sexit ?_
    | ((first | with_reducible apply W2_sra | with_reducible apply W2_srda | with_reducible apply W2_runa | with_reducible apply W2_runda); ((conv => lhs; simp only [go_sem, ibin, ishift, reduceIte, Int.reduceToNat, Int.reduceLT, Int.reduceLE, Nat.reduceLeDiff, Nat.reduceLT, Nat.reduceSub, Nat.reduceAdd, Nat.reduceMul, Nat.reduceDiv, Nat.reduceEqDiff, Nat.reduceBEq, Int.reduceAdd, Int.reduceNeg, Int.reduceEq, Int.reduceMul, Int.reduceSub, reduceCtorEq]) <;> with_reducible rfl))
    | ((first | with_reducible apply W2_sct | with_reducible apply W2_t2); ((conv => lhs; simp only [evs, eg, Nat.reduceEqDiff, if_true, if_false, reduceIte, Bool.not_true, Bool.not_false]) <;> with_reducible rfl); with_reducible rfl)
    | ((first | with_reducible apply W2_scf | with_reducible apply W2_f2); ((conv => lhs; simp only [evs, eg, Nat.reduceEqDiff, if_true, if_false, reduceIte, Bool.not_true, Bool.not_false]) <;> with_reducible rfl); with_reducible rfl)
    | with_reducible refine W2_ret ?_
    | with_reducible refine W2_exit ?_
    | with_reducible refine W2_skip ?_
    | with_reducible refine W2_seq ?_
    | with_reducible refine W2_block ?_)
  ((first | with_reducible apply W2_scall | with_reducible apply W2_scalld | with_reducible apply W2_calla | with_reducible apply W2_callda); ((conv => lhs; simp only [go_sem, ibin, ishift, reduceIte, Int.reduceToNat, Int.reduceLT, Int.reduceLE, Nat.reduceLeDiff, Nat.reduceLT, Nat.reduceSub, Nat.reduceAdd, Nat.reduceMul, Nat.reduceDiv, Nat.reduceEqDiff, Nat.reduceBEq, Int.reduceAdd, Int.reduceNeg, Int.reduceEq, Int.reduceMul, Int.reduceSub, reduceCtorEq]) <;> with_reducible rfl))
  refine CK_pure (write_spec t.toTabN l (by omega)) rfl ?_
  rintro v h' ⟨hw1, _⟩
  obtain ⟨rfl, rfl⟩ := hw1 hgood
  ((first | with_reducible apply WO2_finw | with_reducible apply WO2_fina); ((conv => lhs; simp only [go_sem, ibin, ishift, reduceIte, Int.reduceToNat, Int.reduceLT, Int.reduceLE, Nat.reduceLeDiff, Nat.reduceLT, Nat.reduceSub, Nat.reduceAdd, Nat.reduceMul, Nat.reduceDiv, Nat.reduceEqDiff, Nat.reduceBEq, Int.reduceAdd, Int.reduceNeg, Int.reduceEq, Int.reduceMul, Int.reduceSub, reduceCtorEq]) <;> with_reducible rfl))
  refine W2.wfrz 1 rfl (by (conv => lhs; simp only [go_sem, ibin, ishift, reduceIte, Int.reduceToNat, Int.reduceLT, Int.reduceLE, Nat.reduceLeDiff, Nat.reduceLT, Nat.reduceSub, Nat.reduceAdd, Nat.reduceMul, Nat.reduceDiv, Nat.reduceEqDiff, Nat.reduceBEq, Int.reduceAdd, Int.reduceNeg, Int.reduceEq, Int.reduceMul, Int.reduceSub, reduceCtorEq]) <;> with_reducible rfl) (by (conv => lhs; simp only [go_sem, ibin, ishift, reduceIte, Int.reduceToNat, Int.reduceLT, Int.reduceLE, Nat.reduceLeDiff, Nat.reduceLT, Nat.reduceSub, Nat.reduceAdd, Nat.reduceMul, Nat.reduceDiv, Nat.reduceEqDiff, Nat.reduceBEq, Int.reduceAdd, Int.reduceNeg, Int.reduceEq, Int.reduceMul, Int.reduceSub, reduceCtorEq]) <;> with_reducible rfl) ?_
  have e1 : decide (((encsB l).length : Int) < 0) = false := decide_eq_false (by omega)
  have e2 : decide (b.length < (encsB l).length) = false := decide_eq_false (by omega)
  have hi : ((encsB l).length : Int) ≤ (b.length : Int) := by omega
  repeat' (first
    | with_reducible refine thn2_nrm ?_
    | with_reducible refine thn2_ret ?_
    | with_reducible refine thn2_ex ?_
    | with_reducible refine blk2_nrm ?_
    | with_reducible refine blk2_ret ?_
    | with_reducible refine blk2_at ?_
    | (with_reducible refine blk2_ex ?_ ?_; decide)
    | with_reducible refine W2_sas ?_
    | with_reducible refine W2_ss ?_
    | with_reducible refine W2_sret ?_
    | with_reducible refine W2_sexit ?_
    | ((first | with_reducible apply W2_sra | with_reducible apply W2_srda | with_reducible apply W2_runa | with_reducible apply W2_runda); ((conv => lhs; simp only [go_sem, ibin, ishift, reduceIte, Int.reduceToNat, Int.reduceLT, Int.reduceLE, Nat.reduceLeDiff, Nat.reduceLT, Nat.reduceSub, Nat.reduceAdd, Nat.reduceMul, Nat.reduceDiv, Nat.reduceEqDiff, Nat.reduceBEq, Int.reduceAdd, Int.reduceNeg, Int.reduceEq, Int.reduceMul, Int.reduceSub, reduceCtorEq, hpre, hi, htake, e1, e2]) <;> with_reducible rfl))
    | ((first | with_reducible apply W2_sct | with_reducible apply W2_t2); ((conv => lhs; simp only [evs, eg, Nat.reduceEqDiff, if_true, if_false, reduceIte, Bool.not_true, Bool.not_false]) <;> with_reducible rfl); with_reducible rfl)
    | ((first | with_reducible apply W2_scf | with_reducible apply W2_f2); ((conv => lhs; simp only [evs, eg, Nat.reduceEqDiff, if_true, if_false, reduceIte, Bool.not_true, Bool.not_false]) <;> with_reducible rfl); with_reducible rfl)
    | with_reducible refine W2_ret ?_
    | with_reducible refine W2_exit ?_
    | with_reducible refine W2_skip ?_
    | with_reducible refine W2_seq ?_
    | with_reducible refine W2_block ?_)
  ((first | with_reducible apply W2_scall | with_reducible apply W2_scalld | with_reducible apply W2_calla | with_reducible apply W2_callda); ((conv => lhs; simp only [go_sem, ibin, ishift, reduceIte, Int.reduceToNat, Int.reduceLT, Int.reduceLE, Nat.reduceLeDiff, Nat.reduceLT, Nat.reduceSub, Nat.reduceAdd, Nat.reduceMul, Nat.reduceDiv, Nat.reduceEqDiff, Nat.reduceBEq, Int.reduceAdd, Int.reduceNeg, Int.reduceEq, Int.reduceMul, Int.reduceSub, reduceCtorEq]) <;> with_reducible rfl))
  refine CK_pure (read_spec t.toTabN (encsB l) (by omega)) rfl ?_
  rintro v h' ⟨m, hm, rfl, rfl⟩
  obtain rfl := read_unique (readR_encs hgood) hm
  ((first | with_reducible apply WO2_finw | with_reducible apply WO2_fina); ((conv => lhs; simp only [go_sem, ibin, ishift, reduceIte, Int.reduceToNat, Int.reduceLT, Int.reduceLE, Nat.reduceLeDiff, Nat.reduceLT, Nat.reduceSub, Nat.reduceAdd, Nat.reduceMul, Nat.reduceDiv, Nat.reduceEqDiff, Nat.reduceBEq, Int.reduceAdd, Int.reduceNeg, Int.reduceEq, Int.reduceMul, Int.reduceSub, reduceCtorEq]) <;> with_reducible rfl))
  refine W2.wfrz 2 rfl (by (conv => lhs; simp only [go_sem, ibin, ishift, reduceIte, Int.reduceToNat, Int.reduceLT, Int.reduceLE, Nat.reduceLeDiff, Nat.reduceLT, Nat.reduceSub, Nat.reduceAdd, Nat.reduceMul, Nat.reduceDiv, Nat.reduceEqDiff, Nat.reduceBEq, Int.reduceAdd, Int.reduceNeg, Int.reduceEq, Int.reduceMul, Int.reduceSub, reduceCtorEq]) <;> with_reducible rfl) (by (conv => lhs; simp only [go_sem, ibin, ishift, reduceIte, Int.reduceToNat, Int.reduceLT, Int.reduceLE, Nat.reduceLeDiff, Nat.reduceLT, Nat.reduceSub, Nat.reduceAdd, Nat.reduceMul, Nat.reduceDiv, Nat.reduceEqDiff, Nat.reduceBEq, Int.reduceAdd, Int.reduceNeg, Int.reduceEq, Int.reduceMul, Int.reduceSub, reduceCtorEq]) <;> with_reducible rfl) ?_
  repeat' (first
    | with_reducible refine thn2_nrm ?_
    | with_reducible refine thn2_ret ?_
    | with_reducible refine thn2_ex ?_
    | with_reducible refine blk2_nrm ?_
    | with_reducible refine blk2_ret ?_
    | with_reducible refine blk2_at ?_
    | (with_reducible refine blk2_ex ?_ ?_; decide)
    | with_reducible refine W2_sas ?_
    | with_reducible refine W2_ss ?_
    | with_reducible refine W2_sret ?_
    | with_reducible refine W2_sexit ?_
    | ((first | with_reducible apply W2_sra | with_reducible apply W2_srda | with_reducible apply W2_runa | with_reducible apply W2_runda); ((conv => lhs; simp only [go_sem, ibin, ishift, reduceIte, Int.reduceToNat, Int.reduceLT, Int.reduceLE, Nat.reduceLeDiff, Nat.reduceLT, Nat.reduceSub, Nat.reduceAdd, Nat.reduceMul, Nat.reduceDiv, Nat.reduceEqDiff, Nat.reduceBEq, Int.reduceAdd, Int.reduceNeg, Int.reduceEq, Int.reduceMul, Int.reduceSub, reduceCtorEq]) <;> with_reducible rfl))
    | ((first | with_reducible apply W2_sct | with_reducible apply W2_t2); ((conv => lhs; simp only [evs, eg, Nat.reduceEqDiff, if_true, if_false, reduceIte, Bool.not_true, Bool.not_false]) <;> with_reducible rfl); with_reducible rfl)
    | ((first | with_reducible apply W2_scf | with_reducible apply W2_f2); ((conv => lhs; simp only [evs, eg, Nat.reduceEqDiff, if_true, if_false, reduceIte, Bool.not_true, Bool.not_false]) <;> with_reducible rfl); with_reducible rfl)
    | with_reducible refine W2_ret ?_
    | with_reducible refine W2_exit ?_
    | with_reducible refine W2_skip ?_
    | with_reducible refine W2_seq ?_
    | with_reducible refine W2_block ?_)
  ((first | with_reducible apply W2_scall | with_reducible apply W2_scalld | with_reducible apply W2_calla | with_reducible apply W2_callda); ((conv => lhs; simp only [go_sem, ibin, ishift, reduceIte, Int.reduceToNat, Int.reduceLT, Int.reduceLE, Nat.reduceLeDiff, Nat.reduceLT, Nat.reduceSub, Nat.reduceAdd, Nat.reduceMul, Nat.reduceDiv, Nat.reduceEqDiff, Nat.reduceBEq, Int.reduceAdd, Int.reduceNeg, Int.reduceEq, Int.reduceMul, Int.reduceSub, reduceCtorEq]) <;> with_reducible rfl))
  refine CK_pure (same_spec t.toTabR l l (by omega)) rfl ?_
  rintro v h' ⟨rfl, rfl⟩
  ((first | with_reducible apply WO2_finw | with_reducible apply WO2_fina); ((conv => lhs; simp only [go_sem, ibin, ishift, reduceIte, Int.reduceToNat, Int.reduceLT, Int.reduceLE, Nat.reduceLeDiff, Nat.reduceLT, Nat.reduceSub, Nat.reduceAdd, Nat.reduceMul, Nat.reduceDiv, Nat.reduceEqDiff, Nat.reduceBEq, Int.reduceAdd, Int.reduceNeg, Int.reduceEq, Int.reduceMul, Int.reduceSub, reduceCtorEq, decide_true]) <;> with_reducible rfl))
  repeat' (first
    | with_reducible refine thn2_nrm ?_
    | with_reducible refine thn2_ret ?_
    | with_reducible refine thn2_ex ?_
    | with_reducible refine blk2_nrm ?_
    | with_reducible refine blk2_ret ?_
    | with_reducible refine blk2_at ?_
    | (with_reducible refine blk2_ex ?_ ?_; decide)
    | with_reducible refine W2_sas ?_
    | with_reducible refine W2_ss ?_
    | with_reducible refine W2_sret ?_
    | with_reducible refine W2_sexit ?_
    | ((first | with_reducible apply W2_sra | with_reducible apply W2_srda | with_reducible apply W2_runa | with_reducible apply W2_runda); ((conv => lhs; simp only [go_sem, ibin, ishift, reduceIte, Int.reduceToNat, Int.reduceLT, Int.reduceLE, Nat.reduceLeDiff, Nat.reduceLT, Nat.reduceSub, Nat.reduceAdd, Nat.reduceMul, Nat.reduceDiv, Nat.reduceEqDiff, Nat.reduceBEq, Int.reduceAdd, Int.reduceNeg, Int.reduceEq, Int.reduceMul, Int.reduceSub, reduceCtorEq]) <;> with_reducible rfl))
    | ((first | with_reducible apply W2_sct | with_reducible apply W2_t2); ((conv => lhs; simp only [evs, eg, Nat.reduceEqDiff, if_true, if_false, reduceIte, Bool.not_true, Bool.not_false]) <;> with_reducible rfl); with_reducible rfl)
    | ((first | with_reducible apply W2_scf | with_reducible apply W2_f2); ((conv => lhs; simp only [evs, eg, Nat.reduceEqDiff, if_true, if_false, reduceIte, Bool.not_true, Bool.not_false]) <;> with_reducible rfl); with_reducible rfl)
    | with_reducible refine W2_ret ?_
    | with_reducible refine W2_exit ?_
    | with_reducible refine W2_skip ?_
    | with_reducible refine W2_seq ?_
    | with_reducible refine W2_block ?_)
  (((first | with_reducible apply W2_sc | with_reducible apply W2_cond); ((conv => lhs; simp only [evs, eg, Nat.reduceEqDiff, if_true, if_false, reduceIte, Bool.not_true, Bool.not_false]) <;> with_reducible rfl)) <;> intro hx <;> (try rw [hx]) <;> simp only [Bool.or_eq_true, Bool.and_eq_true, decide_eq_true_eq, Bool.or_eq_false_iff, Bool.and_eq_false_iff, decide_eq_false_iff_not, Bool.not_eq_true', Bool.not_eq_false', bne_iff_ne, beq_iff_eq, not_or, not_and, Decidable.not_not, ne_eq, gt_iff_lt, ge_iff_le, Int.not_lt, Int.not_le] at hx)
  · obtain rfl : l = [] := List.length_eq_zero_iff.1 (by omega)
    have e0 : (encsB []).length = 0 := rfl
    repeat' (first
    | with_reducible refine thn2_nrm ?_
    | with_reducible refine thn2_ret ?_
    | with_reducible refine thn2_ex ?_
    | with_reducible refine blk2_nrm ?_
    | with_reducible refine blk2_ret ?_
    | with_reducible refine blk2_at ?_
    | (with_reducible refine blk2_ex ?_ ?_; decide)
    | with_reducible refine W2_sas ?_
    | with_reducible refine W2_ss ?_
    | with_reducible refine W2_sret ?_
    | with_reducible refine W2_sexit ?_
    | ((first | with_reducible apply W2_sra | with_reducible apply W2_srda | with_reducible apply W2_runa | with_reducible apply W2_runda); ((conv => lhs; simp only [go_sem, ibin, ishift, reduceIte, Int.reduceToNat, Int.reduceLT, Int.reduceLE, Nat.reduceLeDiff, Nat.reduceLT, Nat.reduceSub, Nat.reduceAdd, Nat.reduceMul, Nat.reduceDiv, Nat.reduceEqDiff, Nat.reduceBEq, Int.reduceAdd, Int.reduceNeg, Int.reduceEq, Int.reduceMul, Int.reduceSub, reduceCtorEq, e0]) <;> with_reducible rfl))
    | ((first | with_reducible apply W2_sct | with_reducible apply W2_t2); ((conv => lhs; simp only [evs, eg, Nat.reduceEqDiff, if_true, if_false, reduceIte, Bool.not_true, Bool.not_false]) <;> with_reducible rfl); with_reducible rfl)
    | ((first | with_reducible apply W2_scf | with_reducible apply W2_f2); ((conv => lhs; simp only [evs, eg, Nat.reduceEqDiff, if_true, if_false, reduceIte, Bool.not_true, Bool.not_false]) <;> with_reducible rfl); with_reducible rfl)
    | with_reducible refine W2_ret ?_
    | with_reducible refine W2_exit ?_
    | with_reducible refine W2_skip ?_
    | with_reducible refine W2_seq ?_
    | with_reducible refine W2_block ?_)
    refine ⟨by first | exact .inr rfl | exact .inl rfl, _, _, (by (conv => lhs; simp only [go_sem, ibin, ishift, reduceIte, Int.reduceToNat, Int.reduceLT, Int.reduceLE, Nat.reduceLeDiff, Nat.reduceLT, Nat.reduceSub, Nat.reduceAdd, Nat.reduceMul, Nat.reduceDiv, Nat.reduceEqDiff, Nat.reduceBEq, Int.reduceAdd, Int.reduceNeg, Int.reduceEq, Int.reduceMul, Int.reduceSub, reduceCtorEq]) <;> with_reducible rfl), (by (conv => lhs; simp only [go_sem, ibin, ishift, reduceIte, Int.reduceToNat, Int.reduceLT, Int.reduceLE, Nat.reduceLeDiff, Nat.reduceLT, Nat.reduceSub, Nat.reduceAdd, Nat.reduceMul, Nat.reduceDiv, Nat.reduceEqDiff, Nat.reduceBEq, Int.reduceAdd, Int.reduceNeg, Int.reduceEq, Int.reduceMul, Int.reduceSub, reduceCtorEq]) <;> with_reducible rfl), ?_⟩
    refine ⟨[], by decide, rfl, ?_⟩
    rfl
  · have hpos : 0 < l.length := by omega
    have hg0 := List.getElem?_eq_getElem hpos
    have g := hgood _ (List.getElem_mem hpos)
    have hs := encsB_take hpos
    generalize l[0] = n at hg0 g hs
    have hs : (encsB (l.take 1)) = encB n := hs
    have hp0 : encB n <+: encsB l := by
      rw [← hs]
      conv => rhs; rw [← List.take_append_drop 1 l]
      simp only [encsB, List.flatMap_append]
      exact List.prefix_append _ _
    have hp : encB n <+: b := hp0.trans hl.2.1
    have e4 : decide (((encB n).length : Int) > 0) = true := decide_eq_true (by have := (encB_le g).2; omega)
    have e5 : decide (((encB n).length : Int) ≤ ((encsB l).length : Int)) = true := decide_eq_true (by have := hp0.length_le; omega)
    repeat' (first
    | with_reducible refine thn2_nrm ?_
    | with_reducible refine thn2_ret ?_
    | with_reducible refine thn2_ex ?_
    | with_reducible refine blk2_nrm ?_
    | with_reducible refine blk2_ret ?_
    | with_reducible refine blk2_at ?_
    | (with_reducible refine blk2_ex ?_ ?_; decide)
    | with_reducible refine W2_sas ?_
    | with_reducible refine W2_ss ?_
    | with_reducible refine W2_sret ?_
    | with_reducible refine W2_sexit ?_
    | ((first | with_reducible apply W2_sra | with_reducible apply W2_srda | with_reducible apply W2_runa | with_reducible apply W2_runda); ((conv => lhs; simp only [go_sem, ibin, ishift, reduceIte, Int.reduceToNat, Int.reduceLT, Int.reduceLE, Nat.reduceLeDiff, Nat.reduceLT, Nat.reduceSub, Nat.reduceAdd, Nat.reduceMul, Nat.reduceDiv, Nat.reduceEqDiff, Nat.reduceBEq, Int.reduceAdd, Int.reduceNeg, Int.reduceEq, Int.reduceMul, Int.reduceSub, reduceCtorEq]) <;> with_reducible rfl))
    | ((first | with_reducible apply W2_sct | with_reducible apply W2_t2); ((conv => lhs; simp only [evs, eg, Nat.reduceEqDiff, if_true, if_false, reduceIte, Bool.not_true, Bool.not_false]) <;> with_reducible rfl); with_reducible rfl)
    | ((first | with_reducible apply W2_scf | with_reducible apply W2_f2); ((conv => lhs; simp only [evs, eg, Nat.reduceEqDiff, if_true, if_false, reduceIte, Bool.not_true, Bool.not_false]) <;> with_reducible rfl); with_reducible rfl)
    | with_reducible refine W2_ret ?_
    | with_reducible refine W2_exit ?_
    | with_reducible refine W2_skip ?_
    | with_reducible refine W2_seq ?_
    | with_reducible refine W2_block ?_)
    ((first | with_reducible apply W2_scall | with_reducible apply W2_scalld | with_reducible apply W2_calla | with_reducible apply W2_callda); ((conv => lhs; simp only [go_sem, ibin, ishift, reduceIte, Int.reduceToNat, Int.reduceLT, Int.reduceLE, Nat.reduceLeDiff, Nat.reduceLT, Nat.reduceSub, Nat.reduceAdd, Nat.reduceMul, Nat.reduceDiv, Nat.reduceEqDiff, Nat.reduceBEq, Int.reduceAdd, Int.reduceNeg, Int.reduceEq, Int.reduceMul, Int.reduceSub, reduceCtorEq]) <;> with_reducible rfl))
    refine CK_pure (decode_spec t.toTabD b (by omega)) rfl ?_
    rintro v h' ⟨rfl, ⟨n', g', hp', rfl⟩ | ⟨hno, rfl⟩⟩
    · obtain rfl := enc_unique g g' hp hp'
      ((first | with_reducible apply WO2_finw | with_reducible apply WO2_fina); ((conv => lhs; simp only [go_sem, ibin, ishift, reduceIte, Int.reduceToNat, Int.reduceLT, Int.reduceLE, Nat.reduceLeDiff, Nat.reduceLT, Nat.reduceSub, Nat.reduceAdd, Nat.reduceMul, Nat.reduceDiv, Nat.reduceEqDiff, Nat.reduceBEq, Int.reduceAdd, Int.reduceNeg, Int.reduceEq, Int.reduceMul, Int.reduceSub, reduceCtorEq, cN]) <;> with_reducible rfl))
      repeat' (first
    | with_reducible refine thn2_nrm ?_
    | with_reducible refine thn2_ret ?_
    | with_reducible refine thn2_ex ?_
    | with_reducible refine blk2_nrm ?_
    | with_reducible refine blk2_ret ?_
    | with_reducible refine blk2_at ?_
    | (with_reducible refine blk2_ex ?_ ?_; decide)
    | with_reducible refine W2_sas ?_
    | with_reducible refine W2_ss ?_
    | with_reducible refine W2_sret ?_
    | with_reducible refine W2_sexit ?_
    | ((first | with_reducible apply W2_sra | with_reducible apply W2_srda | with_reducible apply W2_runa | with_reducible apply W2_runda); ((conv => lhs; simp only [go_sem, ibin, ishift, reduceIte, Int.reduceToNat, Int.reduceLT, Int.reduceLE, Nat.reduceLeDiff, Nat.reduceLT, Nat.reduceSub, Nat.reduceAdd, Nat.reduceMul, Nat.reduceDiv, Nat.reduceEqDiff, Nat.reduceBEq, Int.reduceAdd, Int.reduceNeg, Int.reduceEq, Int.reduceMul, Int.reduceSub, reduceCtorEq, hg0, hpos, e4, e5, cN]) <;> with_reducible rfl))
    | ((first | with_reducible apply W2_sct | with_reducible apply W2_t2); ((conv => lhs; simp only [evs, eg, Nat.reduceEqDiff, if_true, if_false, reduceIte, Bool.not_true, Bool.not_false]) <;> with_reducible rfl); with_reducible rfl)
    | ((first | with_reducible apply W2_scf | with_reducible apply W2_f2); ((conv => lhs; simp only [evs, eg, Nat.reduceEqDiff, if_true, if_false, reduceIte, Bool.not_true, Bool.not_false]) <;> with_reducible rfl); with_reducible rfl)
    | with_reducible refine W2_ret ?_
    | with_reducible refine W2_exit ?_
    | with_reducible refine W2_skip ?_
    | with_reducible refine W2_seq ?_
    | with_reducible refine W2_block ?_)
      refine ⟨by first | exact .inr rfl | exact .inl rfl, _, _, (by (conv => lhs; simp only [go_sem, ibin, ishift, reduceIte, Int.reduceToNat, Int.reduceLT, Int.reduceLE, Nat.reduceLeDiff, Nat.reduceLT, Nat.reduceSub, Nat.reduceAdd, Nat.reduceMul, Nat.reduceDiv, Nat.reduceEqDiff, Nat.reduceBEq, Int.reduceAdd, Int.reduceNeg, Int.reduceEq, Int.reduceMul, Int.reduceSub, reduceCtorEq]) <;> with_reducible rfl), (by (conv => lhs; simp only [go_sem, ibin, ishift, reduceIte, Int.reduceToNat, Int.reduceLT, Int.reduceLE, Nat.reduceLeDiff, Nat.reduceLT, Nat.reduceSub, Nat.reduceAdd, Nat.reduceMul, Nat.reduceDiv, Nat.reduceEqDiff, Nat.reduceBEq, Int.reduceAdd, Int.reduceNeg, Int.reduceEq, Int.reduceMul, Int.reduceSub, reduceCtorEq]) <;> with_reducible rfl), ?_⟩
      refine ⟨[], by decide, rfl, ?_⟩
      rfl
    · exact (hno n g hp).elim
end Go.Proofs.Ytdcknhimmdmgoaa.Ab
