/- Chapter 18: laws over the machine: NoteCut. -/
import Derived.Test.YtdcknhimmdmgoaaY18m
namespace Go.Proofs.Ytdcknhimmdmgoaa.Ab
open Go
set_option linter.unusedVariables false
set_option linter.unusedSimpArgs false
variable {T : AT}
/-- what is read of the first bytes are the first notes -/
theorem read_take : ∀ {l g : List Nt} {c : Nat}, (∀ n ∈ l, goodN n) → ReadR ((encsB l).take c) g → g = l.take g.length ∧ g.length ≤ l.length
  | l, [], c, _, _ => by simp
  | [], n :: g, c, _, h => by
    have h1 := h.2.1
    have g1 := h.1 n (.head _)
    rw [encs_cons, show encsB [] = [] from rfl, List.take_nil] at h1
    exact (enc_not_nil g1 (pre_of_append h1).1).elim
  | m :: l, n :: g, c, hl, h => by
    have h1 := h.2.1
    rw [encs_cons] at h1
    have gn := h.1 n (.head _)
    have gm := hl m (.head _)
    obtain ⟨h2, h3⟩ := pre_of_append h1
    have h4 : encB n <+: encsB (m :: l) := h2.trans (List.take_prefix _ _)
    have h5 : encB m <+: encsB (m :: l) := by rw [encs_cons]; exact List.prefix_append _ _
    obtain rfl := enc_unique gn gm h4 h5
    have h6 : ((encsB (n :: l)).take c).drop (encB n).length = (encsB l).take (c - (encB n).length) := by
      rw [List.drop_take, encs_cons, List.drop_left]
    have hr : ReadR ((encsB l).take (c - (encB n).length)) g := by
      refine ⟨fun k hk => h.1 k (.tail _ hk), h6 ▸ h3, fun k hk => ?_⟩
      have := h.2.2 k hk
      rw [encs_cons, List.length_append, ← List.drop_drop, h6] at this
      exact this
    obtain ⟨e1, e2⟩ := read_take (fun k hk => hl k (.tail _ hk)) hr
    exact ⟨by rw [List.length_cons, List.take_succ_cons, ← e1], by simp only [List.length_cons]; omega⟩
theorem noteCut_law (t : TabL18 T) (hT : T i_stillagelaw18_NoteCut = some (.fn c_stillagelaw18_NoteCut)) (l : List Nt) (cut : Int) : Ret2 T 0 i_stillagelaw18_NoteCut [.fz 4 (l.map cN), .i .i64 cut] [] (fun v h' => v = .b true) := by
  refine Ret2_fnv hT rfl rfl ?_
  repeat' (first
    | with_reducible refine thn2_nrm ?_
    | with_reducible refine thn2_ret ?_
    | with_reducible refine thn2_ex ?_
    | with_reducible refine blk2_nrm ?_
    | with_reducible refine blk2_ret ?_
    | with_reducible refine blk2_at ?_
    | (with_reducible refine blk2_ex ?_ ?_; decide)
    | with_reducible refine W2_sas ?_
    | with_reducible refine W2_ss ?_
    | with_reducible refine W2_sret ?_
    | with_reducible refine W2_sexit ?_
    | ((first | with_reducible apply W2_sra | with_reducible apply W2_srda | with_reducible apply W2_runa | with_reducible apply W2_runda); ((conv => lhs; simp only [go_sem, ibin, ishift, reduceIte, Int.reduceToNat, Int.reduceLT, Int.reduceLE, Nat.reduceLeDiff, Nat.reduceLT, Nat.reduceSub, Nat.reduceAdd, Nat.reduceMul, Nat.reduceDiv, Nat.reduceEqDiff, Nat.reduceBEq, Int.reduceAdd, Int.reduceNeg, Int.reduceEq, Int.reduceMul, Int.reduceSub, reduceCtorEq]) <;> with_reducible rfl))
    | ((first | with_reducible apply W2_sct | with_reducible apply W2_t2); ((conv => lhs; simp only [evs, eg, Nat.reduceEqDiff, if_true, if_false, reduceIte, Bool.not_true, Bool.not_false]) <;> with_reducible rfl); with_reducible rfl)
    | ((first | with_reducible apply W2_scf | with_reducible apply W2_f2); ((conv => lhs; simp only [evs, eg, Nat.reduceEqDiff, if_true, if_false, reduceIte, Bool.not_true, Bool.not_false]) <;> with_reducible rfl); with_reducible rfl)
    | with_reducible refine W2_ret ?_
    | with_reducible refine W2_exit ?_
    | with_reducible refine W2_skip ?_
    | with_reducible refine W2_seq ?_
    | with_reducible refine W2_block ?_)
  ((first | with_reducible apply W2_scall | with_reducible apply W2_scalld | with_reducible apply W2_calla | with_reducible apply W2_callda | with_reducible apply run2a_sound); ((conv => lhs; simp only [go_sem, ibin, ishift, reduceIte, Int.reduceToNat, Int.reduceLT, Int.reduceLE, Nat.reduceLeDiff, Nat.reduceLT, Nat.reduceSub, Nat.reduceAdd, Nat.reduceMul, Nat.reduceDiv, Nat.reduceEqDiff, Nat.reduceBEq, Int.reduceAdd, Int.reduceNeg, Int.reduceEq, Int.reduceMul, Int.reduceSub, reduceCtorEq]) <;> with_reducible rfl))
  refine CK_pure (always_spec t.awake) rfl ?_
  rintro v h' ⟨rfl, rfl⟩
  by_cases hlen : ((l.length : Nat) : Int) > 100
  · have hd : decide (((l.length : Nat) : Int) > 100) = true := decide_eq_true hlen
    ((first | with_reducible apply WO2_finw | with_reducible apply WO2_fina); ((conv => lhs; simp only [go_sem, ibin, ishift, reduceIte, Int.reduceToNat, Int.reduceLT, Int.reduceLE, Nat.reduceLeDiff, Nat.reduceLT, Nat.reduceSub, Nat.reduceAdd, Nat.reduceMul, Nat.reduceDiv, Nat.reduceEqDiff, Nat.reduceBEq, Int.reduceAdd, Int.reduceNeg, Int.reduceEq, Int.reduceMul, Int.reduceSub, reduceCtorEq, hd]) <;> with_reducible rfl))
    repeat' (first
    | with_reducible refine thn2_nrm ?_
    | with_reducible refine thn2_ret ?_
    | with_reducible refine thn2_ex ?_
    | with_reducible refine blk2_nrm ?_
    | with_reducible refine blk2_ret ?_
    | with_reducible refine blk2_at ?_
    | (with_reducible refine blk2_ex ?_ ?_; decide)
    | with_reducible refine W2_sas ?_
    | with_reducible refine W2_ss ?_
    | with_reducible refine W2_sret ?_
    | with_reducible refine W2_sexit ?_
    | ((first | with_reducible apply W2_sra | with_reducible apply W2_srda | with_reducible apply W2_runa | with_reducible apply W2_runda); ((conv => lhs; simp only [go_sem, ibin, ishift, reduceIte, Int.reduceToNat, Int.reduceLT, Int.reduceLE, Nat.reduceLeDiff, Nat.reduceLT, Nat.reduceSub, Nat.reduceAdd, Nat.reduceMul, Nat.reduceDiv, Nat.reduceEqDiff, Nat.reduceBEq, Int.reduceAdd, Int.reduceNeg, Int.reduceEq, Int.reduceMul, Int.reduceSub, reduceCtorEq]) <;> with_reducible rfl))
    | ((first | with_reducible apply W2_sct | with_reducible apply W2_t2); ((conv => lhs; simp only [evs, eg, Nat.reduceEqDiff, if_true, if_false, reduceIte, Bool.not_true, Bool.not_false]) <;> with_reducible rfl); with_reducible rfl)
    | ((first | with_reducible apply W2_scf | with_reducible apply W2_f2); ((conv => lhs; simp only [evs, eg, Nat.reduceEqDiff, if_true, if_false, reduceIte, Bool.not_true, Bool.not_false]) <;> with_reducible rfl); with_reducible rfl)
    | with_reducible refine W2_ret ?_
    | with_reducible refine W2_exit ?_
    | with_reducible refine W2_skip ?_
    | with_reducible refine W2_seq ?_
    | with_reducible refine W2_block ?_)
    ((first | with_reducible apply W2_scall | with_reducible apply W2_scalld | with_reducible apply W2_calla | with_reducible apply W2_callda | with_reducible apply run2a_sound); ((conv => lhs; simp only [go_sem, ibin, ishift, reduceIte, Int.reduceToNat, Int.reduceLT, Int.reduceLE, Nat.reduceLeDiff, Nat.reduceLT, Nat.reduceSub, Nat.reduceAdd, Nat.reduceMul, Nat.reduceDiv, Nat.reduceEqDiff, Nat.reduceBEq, Int.reduceAdd, Int.reduceNeg, Int.reduceEq, Int.reduceMul, Int.reduceSub, reduceCtorEq]) <;> with_reducible rfl))
    refine CK_pure (always_spec t.awake) rfl ?_
    rintro v h' ⟨rfl, rfl⟩
    ((first | with_reducible apply WO2_finw | with_reducible apply WO2_fina); ((conv => lhs; simp only [go_sem, ibin, ishift, reduceIte, Int.reduceToNat, Int.reduceLT, Int.reduceLE, Nat.reduceLeDiff, Nat.reduceLT, Nat.reduceSub, Nat.reduceAdd, Nat.reduceMul, Nat.reduceDiv, Nat.reduceEqDiff, Nat.reduceBEq, Int.reduceAdd, Int.reduceNeg, Int.reduceEq, Int.reduceMul, Int.reduceSub, reduceCtorEq]) <;> with_reducible rfl))
    repeat' (first
    | with_reducible refine thn2_nrm ?_
    | with_reducible refine thn2_ret ?_
    | with_reducible refine thn2_ex ?_
    | with_reducible refine blk2_nrm ?_
    | with_reducible refine blk2_ret ?_
    | with_reducible refine blk2_at ?_
    | (with_reducible refine blk2_ex ?_ ?_; decide)
    | with_reducible refine W2_sas ?_
    | with_reducible refine W2_ss ?_
    | with_reducible refine W2_sret ?_
    | with_reducible refine W2_sexit ?_
    | ((first | with_reducible apply W2_sra | with_reducible apply W2_srda | with_reducible apply W2_runa | with_reducible apply W2_runda); ((conv => lhs; simp only [go_sem, ibin, ishift, reduceIte, Int.reduceToNat, Int.reduceLT, Int.reduceLE, Nat.reduceLeDiff, Nat.reduceLT, Nat.reduceSub, Nat.reduceAdd, Nat.reduceMul, Nat.reduceDiv, Nat.reduceEqDiff, Nat.reduceBEq, Int.reduceAdd, Int.reduceNeg, Int.reduceEq, Int.reduceMul, Int.reduceSub, reduceCtorEq]) <;> with_reducible rfl))
    | ((first | with_reducible apply W2_sct | with_reducible apply W2_t2); ((conv => lhs; simp only [evs, eg, Nat.reduceEqDiff, if_true, if_false, reduceIte, Bool.not_true, Bool.not_false]) <;> with_reducible rfl); with_reducible rfl)
    | ((first | with_reducible apply W2_scf | with_reducible apply W2_f2); ((conv => lhs; simp only [evs, eg, Nat.reduceEqDiff, if_true, if_false, reduceIte, Bool.not_true, Bool.not_false]) <;> with_reducible rfl); with_reducible rfl)
    | with_reducible refine W2_ret ?_
    | with_reducible refine W2_exit ?_
    | with_reducible refine W2_skip ?_
    | with_reducible refine W2_seq ?_
    | with_reducible refine W2_block ?_)
    refine ⟨by first | exact .inr rfl | exact .inl rfl, _, _, (by (conv => lhs; simp only [go_sem, ibin, ishift, reduceIte, Int.reduceToNat, Int.reduceLT, Int.reduceLE, Nat.reduceLeDiff, Nat.reduceLT, Nat.reduceSub, Nat.reduceAdd, Nat.reduceMul, Nat.reduceDiv, Nat.reduceEqDiff, Nat.reduceBEq, Int.reduceAdd, Int.reduceNeg, Int.reduceEq, Int.reduceMul, Int.reduceSub, reduceCtorEq]) <;> with_reducible rfl), (by (conv => lhs; simp only [go_sem, ibin, ishift, reduceIte, Int.reduceToNat, Int.reduceLT, Int.reduceLE, Nat.reduceLeDiff, Nat.reduceLT, Nat.reduceSub, Nat.reduceAdd, Nat.reduceMul, Nat.reduceDiv, Nat.reduceEqDiff, Nat.reduceBEq, Int.reduceAdd, Int.reduceNeg, Int.reduceEq, Int.reduceMul, Int.reduceSub, reduceCtorEq]) <;> with_reducible rfl), ?_⟩
    refine ⟨[], by decide, rfl, ?_⟩
    rfl
  have hd : decide (((l.length : Nat) : Int) > 100) = false := decide_eq_false hlen
  have hb : l.length ≤ 100 := by omega
  ((first | with_reducible apply WO2_finw | with_reducible apply WO2_fina); ((conv => lhs; simp only [go_sem, ibin, ishift, reduceIte, Int.reduceToNat, Int.reduceLT, Int.reduceLE, Nat.reduceLeDiff, Nat.reduceLT, Nat.reduceSub, Nat.reduceAdd, Nat.reduceMul, Nat.reduceDiv, Nat.reduceEqDiff, Nat.reduceBEq, Int.reduceAdd, Int.reduceNeg, Int.reduceEq, Int.reduceMul, Int.reduceSub, reduceCtorEq, hd]) <;> with_reducible rfl))
  repeat' (first
    | with_reducible refine thn2_nrm ?_
    | with_reducible refine thn2_ret ?_
    | with_reducible refine thn2_ex ?_
    | with_reducible refine blk2_nrm ?_
    | with_reducible refine blk2_ret ?_
    | with_reducible refine blk2_at ?_
    | (with_reducible refine blk2_ex ?_ ?_; decide)
    | with_reducible refine W2_sas ?_
    | with_reducible refine W2_ss ?_
    | with_reducible refine W2_sret ?_
    | with_reducible refine W2_sexit ?_
    | ((first | with_reducible apply W2_sra | with_reducible apply W2_srda | with_reducible apply W2_runa | with_reducible apply W2_runda); ((conv => lhs; simp only [go_sem, ibin, ishift, reduceIte, Int.reduceToNat, Int.reduceLT, Int.reduceLE, Nat.reduceLeDiff, Nat.reduceLT, Nat.reduceSub, Nat.reduceAdd, Nat.reduceMul, Nat.reduceDiv, Nat.reduceEqDiff, Nat.reduceBEq, Int.reduceAdd, Int.reduceNeg, Int.reduceEq, Int.reduceMul, Int.reduceSub, reduceCtorEq]) <;> with_reducible rfl))
    | ((first | with_reducible apply W2_sct | with_reducible apply W2_t2); ((conv => lhs; simp only [evs, eg, Nat.reduceEqDiff, if_true, if_false, reduceIte, Bool.not_true, Bool.not_false]) <;> with_reducible rfl); with_reducible rfl)
    | ((first | with_reducible apply W2_scf | with_reducible apply W2_f2); ((conv => lhs; simp only [evs, eg, Nat.reduceEqDiff, if_true, if_false, reduceIte, Bool.not_true, Bool.not_false]) <;> with_reducible rfl); with_reducible rfl)
    | with_reducible refine W2_ret ?_
    | with_reducible refine W2_exit ?_
    | with_reducible refine W2_skip ?_
    | with_reducible refine W2_seq ?_
    | with_reducible refine W2_block ?_)
  ((first | with_reducible apply W2_scall | with_reducible apply W2_scalld | with_reducible apply W2_calla | with_reducible apply W2_callda | with_reducible apply run2a_sound); ((conv => lhs; simp only [go_sem, ibin, ishift, reduceIte, Int.reduceToNat, Int.reduceLT, Int.reduceLE, Nat.reduceLeDiff, Nat.reduceLT, Nat.reduceSub, Nat.reduceAdd, Nat.reduceMul, Nat.reduceDiv, Nat.reduceEqDiff, Nat.reduceBEq, Int.reduceAdd, Int.reduceNeg, Int.reduceEq, Int.reduceMul, Int.reduceSub, reduceCtorEq]) <;> with_reducible rfl))
  refine CK_pure (write_spec t.toTabN l (by omega)) rfl ?_
  rintro v h' ⟨hw1, hw2⟩
  by_cases hall : ∀ n ∈ l, goodN n
  rotate_left
  · obtain ⟨rfl, rfl⟩ := hw2 hall
    ((first | with_reducible apply WO2_finw | with_reducible apply WO2_fina); ((conv => lhs; simp only [go_sem, ibin, ishift, reduceIte, Int.reduceToNat, Int.reduceLT, Int.reduceLE, Nat.reduceLeDiff, Nat.reduceLT, Nat.reduceSub, Nat.reduceAdd, Nat.reduceMul, Nat.reduceDiv, Nat.reduceEqDiff, Nat.reduceBEq, Int.reduceAdd, Int.reduceNeg, Int.reduceEq, Int.reduceMul, Int.reduceSub, reduceCtorEq]) <;> with_reducible rfl))
    repeat' (first
    | with_reducible refine thn2_nrm ?_
    | with_reducible refine thn2_ret ?_
    | with_reducible refine thn2_ex ?_
    | with_reducible refine blk2_nrm ?_
    | with_reducible refine blk2_ret ?_
    | with_reducible refine blk2_at ?_
    | (with_reducible refine blk2_ex ?_ ?_; decide)
    | with_reducible refine W2_sas ?_
    | with_reducible refine W2_ss ?_
    | with_reducible refine W2_sret ?_
    | with_reducible refine W2_sexit ?_
    | ((first | with_reducible apply W2_sra | with_reducible apply W2_srda | with_reducible apply W2_runa | with_reducible apply W2_runda); ((conv => lhs; simp only [go_sem, ibin, ishift, reduceIte, Int.reduceToNat, Int.reduceLT, Int.reduceLE, Nat.reduceLeDiff, Nat.reduceLT, Nat.reduceSub, Nat.reduceAdd, Nat.reduceMul, Nat.reduceDiv, Nat.reduceEqDiff, Nat.reduceBEq, Int.reduceAdd, Int.reduceNeg, Int.reduceEq, Int.reduceMul, Int.reduceSub, reduceCtorEq]) <;> with_reducible rfl))
    | ((first | with_reducible apply W2_sct | with_reducible apply W2_t2); ((conv => lhs; simp only [evs, eg, Nat.reduceEqDiff, if_true, if_false, reduceIte, Bool.not_true, Bool.not_false]) <;> with_reducible rfl); with_reducible rfl)
    | ((first | with_reducible apply W2_scf | with_reducible apply W2_f2); ((conv => lhs; simp only [evs, eg, Nat.reduceEqDiff, if_true, if_false, reduceIte, Bool.not_true, Bool.not_false]) <;> with_reducible rfl); with_reducible rfl)
    | with_reducible refine W2_ret ?_
    | with_reducible refine W2_exit ?_
    | with_reducible refine W2_skip ?_
    | with_reducible refine W2_seq ?_
    | with_reducible refine W2_block ?_)
    refine ⟨by first | exact .inr rfl | exact .inl rfl, _, _, (by (conv => lhs; simp only [go_sem, ibin, ishift, reduceIte, Int.reduceToNat, Int.reduceLT, Int.reduceLE, Nat.reduceLeDiff, Nat.reduceLT, Nat.reduceSub, Nat.reduceAdd, Nat.reduceMul, Nat.reduceDiv, Nat.reduceEqDiff, Nat.reduceBEq, Int.reduceAdd, Int.reduceNeg, Int.reduceEq, Int.reduceMul, Int.reduceSub, reduceCtorEq]) <;> with_reducible rfl), (by (conv => lhs; simp only [go_sem, ibin, ishift, reduceIte, Int.reduceToNat, Int.reduceLT, Int.reduceLE, Nat.reduceLeDiff, Nat.reduceLT, Nat.reduceSub, Nat.reduceAdd, Nat.reduceMul, Nat.reduceDiv, Nat.reduceEqDiff, Nat.reduceBEq, Int.reduceAdd, Int.reduceNeg, Int.reduceEq, Int.reduceMul, Int.reduceSub, reduceCtorEq]) <;> with_reducible rfl), ?_⟩
    refine ⟨[], by decide, rfl, ?_⟩
    rfl
  obtain ⟨rfl, rfl⟩ := hw1 hall
  have hel := encsB_le hall
  have hu : ∀ x : Int, 0 ≤ IntKind.u64.wrap x := fun x => by
    simp only [IntKind.wrap, IntKind.bits]
    exact Int.emod_nonneg _ (by decide)
  obtain ⟨c, hc, hcl⟩ : ∃ c : Nat, IntKind.i64.wrap ((IntKind.u64.wrap cut).tmod (((encsB l).length + 1 : Nat) : Int)) = (c : Int) ∧ c ≤ (encsB l).length := by
    have h1 := hu cut
    rw [Int.tmod_eq_emod_of_nonneg h1]
    have h2 := Int.emod_nonneg (IntKind.u64.wrap cut) (show (((encsB l).length + 1 : Nat) : Int) ≠ 0 by omega)
    have h3 := Int.emod_lt_of_pos (IntKind.u64.wrap cut) (show (0 : Int) < (((encsB l).length + 1 : Nat) : Int) by omega)
    generalize IntKind.u64.wrap cut % (((encsB l).length + 1 : Nat) : Int) = y at h2 h3
    refine ⟨y.toNat, ?_, by omega⟩
    rw [wi _ (by omega) (by omega)]; omega
  have f1 : IntKind.u64.wrap (((encsB l).length + 1 : Nat) : Int) = (((encsB l).length + 1 : Nat) : Int) := by
    simp only [IntKind.wrap, IntKind.bits]
    exact Int.emod_eq_of_lt (by omega) (by omega)
  have f2 : ((((encsB l).length + 1 : Nat) : Int) = 0) = False := eq_false (by omega)
  have hci : (c : Int) ≤ ((encsB l).length : Int) := by omega
  ((first | with_reducible apply WO2_finw | with_reducible apply WO2_fina); ((conv => lhs; simp only [go_sem, ibin, ishift, reduceIte, Int.reduceToNat, Int.reduceLT, Int.reduceLE, Nat.reduceLeDiff, Nat.reduceLT, Nat.reduceSub, Nat.reduceAdd, Nat.reduceMul, Nat.reduceDiv, Nat.reduceEqDiff, Nat.reduceBEq, Int.reduceAdd, Int.reduceNeg, Int.reduceEq, Int.reduceMul, Int.reduceSub, reduceCtorEq]) <;> with_reducible rfl))
  refine W2.wfrz 0 rfl (by (conv => lhs; simp only [go_sem, ibin, ishift, reduceIte, Int.reduceToNat, Int.reduceLT, Int.reduceLE, Nat.reduceLeDiff, Nat.reduceLT, Nat.reduceSub, Nat.reduceAdd, Nat.reduceMul, Nat.reduceDiv, Nat.reduceEqDiff, Nat.reduceBEq, Int.reduceAdd, Int.reduceNeg, Int.reduceEq, Int.reduceMul, Int.reduceSub, reduceCtorEq]) <;> with_reducible rfl) (by (conv => lhs; simp only [go_sem, ibin, ishift, reduceIte, Int.reduceToNat, Int.reduceLT, Int.reduceLE, Nat.reduceLeDiff, Nat.reduceLT, Nat.reduceSub, Nat.reduceAdd, Nat.reduceMul, Nat.reduceDiv, Nat.reduceEqDiff, Nat.reduceBEq, Int.reduceAdd, Int.reduceNeg, Int.reduceEq, Int.reduceMul, Int.reduceSub, reduceCtorEq]) <;> with_reducible rfl) ?_
  repeat' (first
    | with_reducible refine thn2_nrm ?_
    | with_reducible refine thn2_ret ?_
    | with_reducible refine thn2_ex ?_
    | with_reducible refine blk2_nrm ?_
    | with_reducible refine blk2_ret ?_
    | with_reducible refine blk2_at ?_
    | (with_reducible refine blk2_ex ?_ ?_; decide)
    | with_reducible refine W2_sas ?_
    | with_reducible refine W2_ss ?_
    | with_reducible refine W2_sret ?_
    | with_reducible refine W2_sexit ?_
    | ((first | with_reducible apply W2_sra | with_reducible apply W2_srda | with_reducible apply W2_runa | with_reducible apply W2_runda); ((conv => lhs; simp only [go_sem, ibin, ishift, reduceIte, Int.reduceToNat, Int.reduceLT, Int.reduceLE, Nat.reduceLeDiff, Nat.reduceLT, Nat.reduceSub, Nat.reduceAdd, Nat.reduceMul, Nat.reduceDiv, Nat.reduceEqDiff, Nat.reduceBEq, Int.reduceAdd, Int.reduceNeg, Int.reduceEq, Int.reduceMul, Int.reduceSub, reduceCtorEq, hc, f1, f2, hci, hcl, wS (show (encsB l).length < 9223372036854775807 by omega)]) <;> with_reducible rfl))
    | ((first | with_reducible apply W2_sct | with_reducible apply W2_t2); ((conv => lhs; simp only [evs, eg, Nat.reduceEqDiff, if_true, if_false, reduceIte, Bool.not_true, Bool.not_false]) <;> with_reducible rfl); with_reducible rfl)
    | ((first | with_reducible apply W2_scf | with_reducible apply W2_f2); ((conv => lhs; simp only [evs, eg, Nat.reduceEqDiff, if_true, if_false, reduceIte, Bool.not_true, Bool.not_false]) <;> with_reducible rfl); with_reducible rfl)
    | with_reducible refine W2_ret ?_
    | with_reducible refine W2_exit ?_
    | with_reducible refine W2_skip ?_
    | with_reducible refine W2_seq ?_
    | with_reducible refine W2_block ?_)
  ((first | with_reducible apply W2_scall | with_reducible apply W2_scalld | with_reducible apply W2_calla | with_reducible apply W2_callda | with_reducible apply run2a_sound); ((conv => lhs; simp only [go_sem, ibin, ishift, reduceIte, Int.reduceToNat, Int.reduceLT, Int.reduceLE, Nat.reduceLeDiff, Nat.reduceLT, Nat.reduceSub, Nat.reduceAdd, Nat.reduceMul, Nat.reduceDiv, Nat.reduceEqDiff, Nat.reduceBEq, Int.reduceAdd, Int.reduceNeg, Int.reduceEq, Int.reduceMul, Int.reduceSub, reduceCtorEq, hci, hcl]) <;> with_reducible rfl))
  refine CK_pure (read_spec t.toTabN ((encsB l).take c) (by rw [List.length_take]; omega)) rfl ?_
  rintro v h' ⟨g, hg, rfl, rfl⟩
  obtain ⟨hgl, hgn⟩ := read_take hall hg
  have hgood := hg.1
  have hg4 := encs_len4 hgood
  have hpc : (encsB g).length ≤ c := by
    have := hg.2.1.length_le
    rw [List.length_take] at this; omega
  ((first | with_reducible apply WO2_finw | with_reducible apply WO2_fina); ((conv => lhs; simp only [go_sem, ibin, ishift, reduceIte, Int.reduceToNat, Int.reduceLT, Int.reduceLE, Nat.reduceLeDiff, Nat.reduceLT, Nat.reduceSub, Nat.reduceAdd, Nat.reduceMul, Nat.reduceDiv, Nat.reduceEqDiff, Nat.reduceBEq, Int.reduceAdd, Int.reduceNeg, Int.reduceEq, Int.reduceMul, Int.reduceSub, reduceCtorEq]) <;> with_reducible rfl))
  refine W2.wfrz 1 rfl (by (conv => lhs; simp only [go_sem, ibin, ishift, reduceIte, Int.reduceToNat, Int.reduceLT, Int.reduceLE, Nat.reduceLeDiff, Nat.reduceLT, Nat.reduceSub, Nat.reduceAdd, Nat.reduceMul, Nat.reduceDiv, Nat.reduceEqDiff, Nat.reduceBEq, Int.reduceAdd, Int.reduceNeg, Int.reduceEq, Int.reduceMul, Int.reduceSub, reduceCtorEq]) <;> with_reducible rfl) (by (conv => lhs; simp only [go_sem, ibin, ishift, reduceIte, Int.reduceToNat, Int.reduceLT, Int.reduceLE, Nat.reduceLeDiff, Nat.reduceLT, Nat.reduceSub, Nat.reduceAdd, Nat.reduceMul, Nat.reduceDiv, Nat.reduceEqDiff, Nat.reduceBEq, Int.reduceAdd, Int.reduceNeg, Int.reduceEq, Int.reduceMul, Int.reduceSub, reduceCtorEq]) <;> with_reducible rfl) ?_
  repeat' (first
    | with_reducible refine thn2_nrm ?_
    | with_reducible refine thn2_ret ?_
    | with_reducible refine thn2_ex ?_
    | with_reducible refine blk2_nrm ?_
    | with_reducible refine blk2_ret ?_
    | with_reducible refine blk2_at ?_
    | (with_reducible refine blk2_ex ?_ ?_; decide)
    | with_reducible refine W2_sas ?_
    | with_reducible refine W2_ss ?_
    | with_reducible refine W2_sret ?_
    | with_reducible refine W2_sexit ?_
    | ((first | with_reducible apply W2_sra | with_reducible apply W2_srda | with_reducible apply W2_runa | with_reducible apply W2_runda); ((conv => lhs; simp only [go_sem, ibin, ishift, reduceIte, Int.reduceToNat, Int.reduceLT, Int.reduceLE, Nat.reduceLeDiff, Nat.reduceLT, Nat.reduceSub, Nat.reduceAdd, Nat.reduceMul, Nat.reduceDiv, Nat.reduceEqDiff, Nat.reduceBEq, Int.reduceAdd, Int.reduceNeg, Int.reduceEq, Int.reduceMul, Int.reduceSub, reduceCtorEq]) <;> with_reducible rfl))
    | ((first | with_reducible apply W2_sct | with_reducible apply W2_t2); ((conv => lhs; simp only [evs, eg, Nat.reduceEqDiff, if_true, if_false, reduceIte, Bool.not_true, Bool.not_false]) <;> with_reducible rfl); with_reducible rfl)
    | ((first | with_reducible apply W2_scf | with_reducible apply W2_f2); ((conv => lhs; simp only [evs, eg, Nat.reduceEqDiff, if_true, if_false, reduceIte, Bool.not_true, Bool.not_false]) <;> with_reducible rfl); with_reducible rfl)
    | with_reducible refine W2_ret ?_
    | with_reducible refine W2_exit ?_
    | with_reducible refine W2_skip ?_
    | with_reducible refine W2_seq ?_
    | with_reducible refine W2_block ?_)
  ((first | with_reducible apply W2_scall | with_reducible apply W2_scalld | with_reducible apply W2_calla | with_reducible apply W2_callda | with_reducible apply run2a_sound); ((conv => lhs; simp only [go_sem, ibin, ishift, reduceIte, Int.reduceToNat, Int.reduceLT, Int.reduceLE, Nat.reduceLeDiff, Nat.reduceLT, Nat.reduceSub, Nat.reduceAdd, Nat.reduceMul, Nat.reduceDiv, Nat.reduceEqDiff, Nat.reduceBEq, Int.reduceAdd, Int.reduceNeg, Int.reduceEq, Int.reduceMul, Int.reduceSub, reduceCtorEq]) <;> with_reducible rfl))
  refine CK_pure (read_spec t.toTabN (encsB l) (by omega)) rfl ?_
  rintro v h' ⟨m, hm, rfl, rfl⟩
  obtain rfl := read_unique (readR_encs hall) hm
  ((first | with_reducible apply WO2_finw | with_reducible apply WO2_fina); ((conv => lhs; simp only [go_sem, ibin, ishift, reduceIte, Int.reduceToNat, Int.reduceLT, Int.reduceLE, Nat.reduceLeDiff, Nat.reduceLT, Nat.reduceSub, Nat.reduceAdd, Nat.reduceMul, Nat.reduceDiv, Nat.reduceEqDiff, Nat.reduceBEq, Int.reduceAdd, Int.reduceNeg, Int.reduceEq, Int.reduceMul, Int.reduceSub, reduceCtorEq]) <;> with_reducible rfl))
  refine W2.wfrz 2 rfl (by (conv => lhs; simp only [go_sem, ibin, ishift, reduceIte, Int.reduceToNat, Int.reduceLT, Int.reduceLE, Nat.reduceLeDiff, Nat.reduceLT, Nat.reduceSub, Nat.reduceAdd, Nat.reduceMul, Nat.reduceDiv, Nat.reduceEqDiff, Nat.reduceBEq, Int.reduceAdd, Int.reduceNeg, Int.reduceEq, Int.reduceMul, Int.reduceSub, reduceCtorEq]) <;> with_reducible rfl) (by (conv => lhs; simp only [go_sem, ibin, ishift, reduceIte, Int.reduceToNat, Int.reduceLT, Int.reduceLE, Nat.reduceLeDiff, Nat.reduceLT, Nat.reduceSub, Nat.reduceAdd, Nat.reduceMul, Nat.reduceDiv, Nat.reduceEqDiff, Nat.reduceBEq, Int.reduceAdd, Int.reduceNeg, Int.reduceEq, Int.reduceMul, Int.reduceSub, reduceCtorEq]) <;> with_reducible rfl) ?_
  repeat' (first
    | with_reducible refine thn2_nrm ?_
    | with_reducible refine thn2_ret ?_
    | with_reducible refine thn2_ex ?_
    | with_reducible refine blk2_nrm ?_
    | with_reducible refine blk2_ret ?_
    | with_reducible refine blk2_at ?_
    | (with_reducible refine blk2_ex ?_ ?_; decide)
    | with_reducible refine W2_sas ?_
    | with_reducible refine W2_ss ?_
    | with_reducible refine W2_sret ?_
    | with_reducible refine W2_sexit ?_
    | ((first | with_reducible apply W2_sra | with_reducible apply W2_srda | with_reducible apply W2_runa | with_reducible apply W2_runda); ((conv => lhs; simp only [go_sem, ibin, ishift, reduceIte, Int.reduceToNat, Int.reduceLT, Int.reduceLE, Nat.reduceLeDiff, Nat.reduceLT, Nat.reduceSub, Nat.reduceAdd, Nat.reduceMul, Nat.reduceDiv, Nat.reduceEqDiff, Nat.reduceBEq, Int.reduceAdd, Int.reduceNeg, Int.reduceEq, Int.reduceMul, Int.reduceSub, reduceCtorEq]) <;> with_reducible rfl))
    | ((first | with_reducible apply W2_sct | with_reducible apply W2_t2); ((conv => lhs; simp only [evs, eg, Nat.reduceEqDiff, if_true, if_false, reduceIte, Bool.not_true, Bool.not_false]) <;> with_reducible rfl); with_reducible rfl)
    | ((first | with_reducible apply W2_scf | with_reducible apply W2_f2); ((conv => lhs; simp only [evs, eg, Nat.reduceEqDiff, if_true, if_false, reduceIte, Bool.not_true, Bool.not_false]) <;> with_reducible rfl); with_reducible rfl)
    | with_reducible refine W2_ret ?_
    | with_reducible refine W2_exit ?_
    | with_reducible refine W2_skip ?_
    | with_reducible refine W2_seq ?_
    | with_reducible refine W2_block ?_)
  ((first | with_reducible apply W2_scall | with_reducible apply W2_scalld | with_reducible apply W2_calla | with_reducible apply W2_callda | with_reducible apply run2a_sound); ((conv => lhs; simp only [go_sem, ibin, ishift, reduceIte, Int.reduceToNat, Int.reduceLT, Int.reduceLE, Nat.reduceLeDiff, Nat.reduceLT, Nat.reduceSub, Nat.reduceAdd, Nat.reduceMul, Nat.reduceDiv, Nat.reduceEqDiff, Nat.reduceBEq, Int.reduceAdd, Int.reduceNeg, Int.reduceEq, Int.reduceMul, Int.reduceSub, reduceCtorEq]) <;> with_reducible rfl))
  refine CK_pure (same_spec t.toTabR l l (by omega)) rfl ?_
  rintro v h' ⟨rfl, rfl⟩
  have e1 : decide (c < (encsB g).length) = false := decide_eq_false (by omega)
  have e2 : decide (l.length < g.length) = false := decide_eq_false (by omega)
  have hgi : (g.length : Int) ≤ (l.length : Int) := by omega
  ((first | with_reducible apply W2_scall | with_reducible apply W2_scalld | with_reducible apply W2_calla | with_reducible apply W2_callda | with_reducible apply run2a_sound); ((conv => lhs; simp only [go_sem, ibin, ishift, reduceIte, Int.reduceToNat, Int.reduceLT, Int.reduceLE, Nat.reduceLeDiff, Nat.reduceLT, Nat.reduceSub, Nat.reduceAdd, Nat.reduceMul, Nat.reduceDiv, Nat.reduceEqDiff, Nat.reduceBEq, Int.reduceAdd, Int.reduceNeg, Int.reduceEq, Int.reduceMul, Int.reduceSub, reduceCtorEq, e1, e2, hgn, hgi, ← hgl]) <;> with_reducible rfl))
  refine CK_pure (same_spec t.toTabR g g (by omega)) rfl ?_
  rintro v h' ⟨rfl, rfl⟩
  ((first | with_reducible apply WO2_finw | with_reducible apply WO2_fina); ((conv => lhs; simp only [go_sem, ibin, ishift, reduceIte, Int.reduceToNat, Int.reduceLT, Int.reduceLE, Nat.reduceLeDiff, Nat.reduceLT, Nat.reduceSub, Nat.reduceAdd, Nat.reduceMul, Nat.reduceDiv, Nat.reduceEqDiff, Nat.reduceBEq, Int.reduceAdd, Int.reduceNeg, Int.reduceEq, Int.reduceMul, Int.reduceSub, reduceCtorEq, decide_true]) <;> with_reducible rfl))
  repeat' (first
    | with_reducible refine thn2_nrm ?_
    | with_reducible refine thn2_ret ?_
    | with_reducible refine thn2_ex ?_
    | with_reducible refine blk2_nrm ?_
    | with_reducible refine blk2_ret ?_
    | with_reducible refine blk2_at ?_
    | (with_reducible refine blk2_ex ?_ ?_; decide)
    | with_reducible refine W2_sas ?_
    | with_reducible refine W2_ss ?_
    | with_reducible refine W2_sret ?_
    | with_reducible refine W2_sexit ?_
    | ((first | with_reducible apply W2_sra | with_reducible apply W2_srda | with_reducible apply W2_runa | with_reducible apply W2_runda); ((conv => lhs; simp only [go_sem, ibin, ishift, reduceIte, Int.reduceToNat, Int.reduceLT, Int.reduceLE, Nat.reduceLeDiff, Nat.reduceLT, Nat.reduceSub, Nat.reduceAdd, Nat.reduceMul, Nat.reduceDiv, Nat.reduceEqDiff, Nat.reduceBEq, Int.reduceAdd, Int.reduceNeg, Int.reduceEq, Int.reduceMul, Int.reduceSub, reduceCtorEq]) <;> with_reducible rfl))
    | ((first | with_reducible apply W2_sct | with_reducible apply W2_t2); ((conv => lhs; simp only [evs, eg, Nat.reduceEqDiff, if_true, if_false, reduceIte, Bool.not_true, Bool.not_false]) <;> with_reducible rfl); with_reducible rfl)
    | ((first | with_reducible apply W2_scf | with_reducible apply W2_f2); ((conv => lhs; simp only [evs, eg, Nat.reduceEqDiff, if_true, if_false, reduceIte, Bool.not_true, Bool.not_false]) <;> with_reducible rfl); with_reducible rfl)
    | with_reducible refine W2_ret ?_
    | with_reducible refine W2_exit ?_
    | with_reducible refine W2_skip ?_
    | with_reducible refine W2_seq ?_
    | with_reducible refine W2_block ?_)
  (((first | with_reducible apply W2_sc | with_reducible apply W2_cond); ((conv => lhs; simp only [evs, eg, Nat.reduceEqDiff, if_true, if_false, reduceIte, Bool.not_true, Bool.not_false]) <;> with_reducible rfl)) <;> intro hx <;> (try rw [hx]) <;> simp only [Bool.or_eq_true, Bool.and_eq_true, decide_eq_true_eq, Bool.or_eq_false_iff, Bool.and_eq_false_iff, decide_eq_false_iff_not, Bool.not_eq_true', Bool.not_eq_false', bne_iff_ne, beq_iff_eq, not_or, not_and, Decidable.not_not, ne_eq, gt_iff_lt, ge_iff_le, Int.not_lt, Int.not_le] at hx)
  · have hll : g.length = l.length := by omega
    have hgl2 : g = l := by rw [hgl, hll, List.take_length]
    subst hgl2
    have : c = (encsB g).length := by omega
    repeat' (first
    | with_reducible refine thn2_nrm ?_
    | with_reducible refine thn2_ret ?_
    | with_reducible refine thn2_ex ?_
    | with_reducible refine blk2_nrm ?_
    | with_reducible refine blk2_ret ?_
    | with_reducible refine blk2_at ?_
    | (with_reducible refine blk2_ex ?_ ?_; decide)
    | with_reducible refine W2_sas ?_
    | with_reducible refine W2_ss ?_
    | with_reducible refine W2_sret ?_
    | with_reducible refine W2_sexit ?_
    | ((first | with_reducible apply W2_sra | with_reducible apply W2_srda | with_reducible apply W2_runa | with_reducible apply W2_runda); ((conv => lhs; simp only [go_sem, ibin, ishift, reduceIte, Int.reduceToNat, Int.reduceLT, Int.reduceLE, Nat.reduceLeDiff, Nat.reduceLT, Nat.reduceSub, Nat.reduceAdd, Nat.reduceMul, Nat.reduceDiv, Nat.reduceEqDiff, Nat.reduceBEq, Int.reduceAdd, Int.reduceNeg, Int.reduceEq, Int.reduceMul, Int.reduceSub, reduceCtorEq, this, decide_true]) <;> with_reducible rfl))
    | ((first | with_reducible apply W2_sct | with_reducible apply W2_t2); ((conv => lhs; simp only [evs, eg, Nat.reduceEqDiff, if_true, if_false, reduceIte, Bool.not_true, Bool.not_false]) <;> with_reducible rfl); with_reducible rfl)
    | ((first | with_reducible apply W2_scf | with_reducible apply W2_f2); ((conv => lhs; simp only [evs, eg, Nat.reduceEqDiff, if_true, if_false, reduceIte, Bool.not_true, Bool.not_false]) <;> with_reducible rfl); with_reducible rfl)
    | with_reducible refine W2_ret ?_
    | with_reducible refine W2_exit ?_
    | with_reducible refine W2_skip ?_
    | with_reducible refine W2_seq ?_
    | with_reducible refine W2_block ?_)
    refine ⟨by first | exact .inr rfl | exact .inl rfl, _, _, (by (conv => lhs; simp only [go_sem, ibin, ishift, reduceIte, Int.reduceToNat, Int.reduceLT, Int.reduceLE, Nat.reduceLeDiff, Nat.reduceLT, Nat.reduceSub, Nat.reduceAdd, Nat.reduceMul, Nat.reduceDiv, Nat.reduceEqDiff, Nat.reduceBEq, Int.reduceAdd, Int.reduceNeg, Int.reduceEq, Int.reduceMul, Int.reduceSub, reduceCtorEq]) <;> with_reducible rfl), (by (conv => lhs; simp only [go_sem, ibin, ishift, reduceIte, Int.reduceToNat, Int.reduceLT, Int.reduceLE, Nat.reduceLeDiff, Nat.reduceLT, Nat.reduceSub, Nat.reduceAdd, Nat.reduceMul, Nat.reduceDiv, Nat.reduceEqDiff, Nat.reduceBEq, Int.reduceAdd, Int.reduceNeg, Int.reduceEq, Int.reduceMul, Int.reduceSub, reduceCtorEq]) <;> with_reducible rfl), ?_⟩
    refine ⟨[], by decide, rfl, ?_⟩
    rfl
  · have hlt : g.length < l.length := by omega
    have hget := List.getElem?_eq_getElem hlt
    have gn := hall _ (List.getElem_mem hlt)
    have hs := encsB_take hlt
    generalize l[g.length] = n at hget gn hs
    rw [← hgl] at hs
    have hlt2 : c - (encsB g).length < (encB n).length := by
      refine Nat.lt_of_not_le fun hle => hg.2.2 n gn ?_
      have h1 : encsB g ++ encB n <+: encsB l := by
        rw [← hs]
        conv => rhs; rw [← List.take_append_drop (g.length + 1) l]
        simp only [encsB, List.flatMap_append]
        exact List.prefix_append _ _
      obtain ⟨r, hr⟩ := h1
      rw [← hr, List.append_assoc, List.drop_take, List.drop_left]
      exact List.prefix_take_iff.2 ⟨List.prefix_append _ _, hle⟩
    have hlti : (g.length : Int) < (l.length : Int) := by omega
    have e6 : IntKind.i64.wrap ((c : Int) - ((encsB g).length : Int)) = ((c - (encsB g).length : Nat) : Int) := by rw [wi _ (by omega) (by omega)]; omega
    repeat' (first
    | with_reducible refine thn2_nrm ?_
    | with_reducible refine thn2_ret ?_
    | with_reducible refine thn2_ex ?_
    | with_reducible refine blk2_nrm ?_
    | with_reducible refine blk2_ret ?_
    | with_reducible refine blk2_at ?_
    | (with_reducible refine blk2_ex ?_ ?_; decide)
    | with_reducible refine W2_sas ?_
    | with_reducible refine W2_ss ?_
    | with_reducible refine W2_sret ?_
    | with_reducible refine W2_sexit ?_
    | ((first | with_reducible apply W2_sra | with_reducible apply W2_srda | with_reducible apply W2_runa | with_reducible apply W2_runda); ((conv => lhs; simp only [go_sem, ibin, ishift, reduceIte, Int.reduceToNat, Int.reduceLT, Int.reduceLE, Nat.reduceLeDiff, Nat.reduceLT, Nat.reduceSub, Nat.reduceAdd, Nat.reduceMul, Nat.reduceDiv, Nat.reduceEqDiff, Nat.reduceBEq, Int.reduceAdd, Int.reduceNeg, Int.reduceEq, Int.reduceMul, Int.reduceSub, reduceCtorEq]) <;> with_reducible rfl))
    | ((first | with_reducible apply W2_sct | with_reducible apply W2_t2); ((conv => lhs; simp only [evs, eg, Nat.reduceEqDiff, if_true, if_false, reduceIte, Bool.not_true, Bool.not_false]) <;> with_reducible rfl); with_reducible rfl)
    | ((first | with_reducible apply W2_scf | with_reducible apply W2_f2); ((conv => lhs; simp only [evs, eg, Nat.reduceEqDiff, if_true, if_false, reduceIte, Bool.not_true, Bool.not_false]) <;> with_reducible rfl); with_reducible rfl)
    | with_reducible refine W2_ret ?_
    | with_reducible refine W2_exit ?_
    | with_reducible refine W2_skip ?_
    | with_reducible refine W2_seq ?_
    | with_reducible refine W2_block ?_)
    ((first | with_reducible apply W2_scall | with_reducible apply W2_scalld | with_reducible apply W2_calla | with_reducible apply W2_callda | with_reducible apply run2a_sound); ((conv => lhs; simp only [go_sem, ibin, ishift, reduceIte, Int.reduceToNat, Int.reduceLT, Int.reduceLE, Nat.reduceLeDiff, Nat.reduceLT, Nat.reduceSub, Nat.reduceAdd, Nat.reduceMul, Nat.reduceDiv, Nat.reduceEqDiff, Nat.reduceBEq, Int.reduceAdd, Int.reduceNeg, Int.reduceEq, Int.reduceMul, Int.reduceSub, reduceCtorEq, hget, hlt, hlti, cN]) <;> with_reducible rfl))
    refine CK_pure (encode_spec t.toTab18 n) rfl ?_
    rintro v h' ⟨hw, _⟩
    obtain ⟨rfl, rfl⟩ := hw gn
    have e7 : decide (c - (encsB g).length < (encB n).length) = true := decide_eq_true hlt2
    ((first | with_reducible apply WO2_finw | with_reducible apply WO2_fina); ((conv => lhs; simp only [go_sem, ibin, ishift, reduceIte, Int.reduceToNat, Int.reduceLT, Int.reduceLE, Nat.reduceLeDiff, Nat.reduceLT, Nat.reduceSub, Nat.reduceAdd, Nat.reduceMul, Nat.reduceDiv, Nat.reduceEqDiff, Nat.reduceBEq, Int.reduceAdd, Int.reduceNeg, Int.reduceEq, Int.reduceMul, Int.reduceSub, reduceCtorEq]) <;> with_reducible rfl))
    repeat' (first
    | with_reducible refine thn2_nrm ?_
    | with_reducible refine thn2_ret ?_
    | with_reducible refine thn2_ex ?_
    | with_reducible refine blk2_nrm ?_
    | with_reducible refine blk2_ret ?_
    | with_reducible refine blk2_at ?_
    | (with_reducible refine blk2_ex ?_ ?_; decide)
    | with_reducible refine W2_sas ?_
    | with_reducible refine W2_ss ?_
    | with_reducible refine W2_sret ?_
    | with_reducible refine W2_sexit ?_
    | ((first | with_reducible apply W2_sra | with_reducible apply W2_srda | with_reducible apply W2_runa | with_reducible apply W2_runda); ((conv => lhs; simp only [go_sem, ibin, ishift, reduceIte, Int.reduceToNat, Int.reduceLT, Int.reduceLE, Nat.reduceLeDiff, Nat.reduceLT, Nat.reduceSub, Nat.reduceAdd, Nat.reduceMul, Nat.reduceDiv, Nat.reduceEqDiff, Nat.reduceBEq, Int.reduceAdd, Int.reduceNeg, Int.reduceEq, Int.reduceMul, Int.reduceSub, reduceCtorEq, e6, e7]) <;> with_reducible rfl))
    | ((first | with_reducible apply W2_sct | with_reducible apply W2_t2); ((conv => lhs; simp only [evs, eg, Nat.reduceEqDiff, if_true, if_false, reduceIte, Bool.not_true, Bool.not_false]) <;> with_reducible rfl); with_reducible rfl)
    | ((first | with_reducible apply W2_scf | with_reducible apply W2_f2); ((conv => lhs; simp only [evs, eg, Nat.reduceEqDiff, if_true, if_false, reduceIte, Bool.not_true, Bool.not_false]) <;> with_reducible rfl); with_reducible rfl)
    | with_reducible refine W2_ret ?_
    | with_reducible refine W2_exit ?_
    | with_reducible refine W2_skip ?_
    | with_reducible refine W2_seq ?_
    | with_reducible refine W2_block ?_)
    refine ⟨by first | exact .inr rfl | exact .inl rfl, _, _, (by (conv => lhs; simp only [go_sem, ibin, ishift, reduceIte, Int.reduceToNat, Int.reduceLT, Int.reduceLE, Nat.reduceLeDiff, Nat.reduceLT, Nat.reduceSub, Nat.reduceAdd, Nat.reduceMul, Nat.reduceDiv, Nat.reduceEqDiff, Nat.reduceBEq, Int.reduceAdd, Int.reduceNeg, Int.reduceEq, Int.reduceMul, Int.reduceSub, reduceCtorEq]) <;> with_reducible rfl), (by (conv => lhs; simp only [go_sem, ibin, ishift, reduceIte, Int.reduceToNat, Int.reduceLT, Int.reduceLE, Nat.reduceLeDiff, Nat.reduceLT, Nat.reduceSub, Nat.reduceAdd, Nat.reduceMul, Nat.reduceDiv, Nat.reduceEqDiff, Nat.reduceBEq, Int.reduceAdd, Int.reduceNeg, Int.reduceEq, Int.reduceMul, Int.reduceSub, reduceCtorEq]) <;> with_reducible rfl), ?_⟩
    refine ⟨[], by decide, rfl, ?_⟩
    rfl
end Go.Proofs.Ytdcknhimmdmgoaa.Ab
