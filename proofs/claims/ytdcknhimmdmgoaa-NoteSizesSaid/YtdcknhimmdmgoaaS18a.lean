/- Chapter 18: numbers, kinds. -/
import Derived.Test.YtdcknhimmdmgoaaAbHeap
import Derived.Test.YtdcknhimmdmgoaaC18
import Derived.Laws.BitsLemmas
namespace Go.Proofs.Ytdcknhimmdmgoaa.Ab
open Go
set_option linter.unusedVariables false
set_option linter.unusedSimpArgs false
theorem wi (x : Int) (h0 : -9223372036854775808 ≤ x) (h1 : x ≤ 9223372036854775807) : IntKind.i64.wrap x = x := by
  rw [IntKind.wrap_i64]; omega
theorem u8nat (k : Nat) : UInt8.ofInt (k : Int) = UInt8.ofNat k := by
  apply UInt8.toNat_inj.1
  simp [UInt8.ofInt]; omega
variable {T : AT} {h : AH}
def usesZ (k : Int) : Int := if k = 2 ∨ k = 4 then 3 else if k = 1 ∨ k = 5 ∨ k = 8 then 2 else if k = 3 ∨ k = 6 ∨ k = 7 then 1 else -1
theorem uses_spec (hT : T i_note_uses = some (.fn c_note_uses)) (k : Int) : Ret T i_note_uses [.i .i64 k] h (fun v h' => v = .i .i64 (usesZ k) ∧ h' = h) := by
  refine Ret_fn hT rfl rfl ?_
  repeat' (first
    | refine W_seq ?_
    | refine W_block ?_
    | refine W_run (by (conv => lhs; simp only [runK, run, guarded, nxt, aop, ev, eget, eput, pureh, Option.map_some, abin, ibin, ishift, sbin, aeq, aeqs, sceq, bindA, keepE, List.map, ptrs, aload, astore, achk, aslice, bnd, amins, amaxs, aidx, aidxa, aidxv, afield, aext, alen, fills, AV.cl, setl, List.set, AH.rd, AH.rdn, blk_alloc, nx_alloc, AV.isUn, List.getElem?_cons_zero, List.getElem?_cons_succ, List.length_cons, List.length_nil, List.drop_zero, List.take_succ_cons, List.take_zero, List.any_cons, List.any_nil, Bool.or_false, Bool.false_eq_true, and_self, if_true, if_false, Int.toNat_zero, Int.reduceToNat, Int.reduceLT, Int.reduceLE, decide_true, decide_false, bne, Bool.not_true, Bool.not_false, beq_self_eq_true, beq_ft, beq_tf, Option.map_none, Int.cast_ofNat_Int, true_and, and_true, Nat.zero_add, Nat.le_refl, Nat.reduceLeDiff, Nat.reduceLT, Nat.reduceSub, Int.reduceAdd, Int.reduceNeg, Int.reduceEq, Int.reduceMul, Int.reduceSub, Nat.reduceEqDiff, Nat.reduceBEq, Nat.add_zero, Nat.reduceDiv, Bool.or_self, reduceIte, Nat.reduceEqDiff, Nat.reduceAdd, Nat.reduceMul]) <;> with_reducible rfl) ?_
    | refine W_rund (by (conv => lhs; simp only [runK, run, guarded, nxt, aop, ev, eget, eput, pureh, Option.map_some, abin, ibin, ishift, sbin, aeq, aeqs, sceq, bindA, keepE, List.map, ptrs, aload, astore, achk, aslice, bnd, amins, amaxs, aidx, aidxa, aidxv, afield, aext, alen, fills, AV.cl, setl, List.set, AH.rd, AH.rdn, blk_alloc, nx_alloc, AV.isUn, List.getElem?_cons_zero, List.getElem?_cons_succ, List.length_cons, List.length_nil, List.drop_zero, List.take_succ_cons, List.take_zero, List.any_cons, List.any_nil, Bool.or_false, Bool.false_eq_true, and_self, if_true, if_false, Int.toNat_zero, Int.reduceToNat, Int.reduceLT, Int.reduceLE, decide_true, decide_false, bne, Bool.not_true, Bool.not_false, beq_self_eq_true, beq_ft, beq_tf, Option.map_none, Int.cast_ofNat_Int, true_and, and_true, Nat.zero_add, Nat.le_refl, Nat.reduceLeDiff, Nat.reduceLT, Nat.reduceSub, Int.reduceAdd, Int.reduceNeg, Int.reduceEq, Int.reduceMul, Int.reduceSub, Nat.reduceEqDiff, Nat.reduceBEq, Nat.add_zero, Nat.reduceDiv, Bool.or_self, reduceIte, Nat.reduceEqDiff, Nat.reduceAdd, Nat.reduceMul]) <;> with_reducible rfl) ?_
    | refine W_true rfl ?_
    | refine W_false rfl ?_
    | refine W_ret ?_
    | refine W_exit ?_
    | refine W_skip ?_
    | (refine W_cond rfl (fun hx => ?_) (fun hx => ?_) <;> (try rw [hx]) <;> simp only [decide_eq_true_eq, decide_eq_false_iff_not] at hx))
  all_goals (refine ⟨by first | exact .inr rfl | exact .inl rfl, _, _, (by (conv => lhs; simp only [aress, ares, runK, run, guarded, nxt, aop, ev, eget, eput, pureh, Option.map_some, abin, ibin, ishift, sbin, aeq, aeqs, sceq, bindA, keepE, List.map, ptrs, aload, astore, achk, aslice, bnd, amins, amaxs, aidx, aidxa, aidxv, afield, aext, alen, fills, AV.cl, setl, List.set, AH.rd, AH.rdn, blk_alloc, nx_alloc, AV.isUn, List.getElem?_cons_zero, List.getElem?_cons_succ, List.length_cons, List.length_nil, List.drop_zero, List.take_succ_cons, List.take_zero, List.any_cons, List.any_nil, Bool.or_false, Bool.false_eq_true, and_self, if_true, if_false, Int.toNat_zero, Int.reduceToNat, Int.reduceLT, Int.reduceLE, decide_true, decide_false, bne, Bool.not_true, Bool.not_false, beq_self_eq_true, beq_ft, beq_tf, Option.map_none, Int.cast_ofNat_Int, true_and, and_true, Nat.zero_add, Nat.le_refl, Nat.reduceLeDiff, Nat.reduceLT, Nat.reduceSub, Int.reduceAdd, Int.reduceNeg, Int.reduceEq, Int.reduceMul, Int.reduceSub, Nat.reduceEqDiff, Nat.reduceBEq, Nat.add_zero, Nat.reduceDiv, Bool.or_self, reduceIte, Nat.reduceEqDiff, Nat.reduceAdd, Nat.reduceMul]) <;> with_reducible rfl), rfl, ?_⟩)
  all_goals (simp [usesZ, *])

def num (x : Nat) : List UInt8 := if x < 128 then [UInt8.ofNat x] else UInt8.ofNat (x % 128 + 128) :: num (x / 128)
decreasing_by omega
theorem num_len (x : Nat) (k : Nat) (h : x < 128 ^ k) (hk : 0 < k) : (num x).length ≤ k := by
  induction k generalizing x with
  | zero => omega
  | succ k ih =>
    unfold num
    split
    · simp
    · rename_i hx
      simp only [List.length_cons]
      have : 0 < k := by
        apply Nat.pos_of_ne_zero
        intro e; subst e; simp at h; omega
      have := ih (x / 128) (by rw [Nat.div_lt_iff_lt_mul (by decide)]; rw [Nat.pow_succ] at h; exact h) this
      omega
theorem number_spec (hT : T i_note_number = some (.fn c_note_number)) (b : AV) (l : List UInt8) (o : Option Nat) (x : Nat) (hb : Buf 1 h b (by8 l) o) (hl : l.length ≤ 1000000) (hx : x < 9223372036854775808) :
    Ret T i_note_number [b, .i .i64 x] h (fun v h' => ∃ o', Buf 1 h' v (by8 (l ++ num x)) o' ∧ Grow o h o' h') := by
  refine Ret_fn hT rfl rfl ?_
  refine W_seq ?_
  refine W_run (by (conv => lhs; simp only [runK, run, guarded, nxt, aop, ev, eget, eput, pureh, Option.map_some, abin, ibin, ishift, sbin, aeq, aeqs, sceq, bindA, keepE, List.map, ptrs, aload, astore, achk, aslice, bnd, amins, amaxs, aidx, aidxa, aidxv, afield, aext, alen, fills, AV.cl, setl, List.set, AH.rd, AH.rdn, blk_alloc, nx_alloc, AV.isUn, List.getElem?_cons_zero, List.getElem?_cons_succ, List.length_cons, List.length_nil, List.drop_zero, List.take_succ_cons, List.take_zero, List.any_cons, List.any_nil, Bool.or_false, Bool.false_eq_true, and_self, if_true, if_false, Int.toNat_zero, Int.reduceToNat, Int.reduceLT, Int.reduceLE, decide_true, decide_false, bne, Bool.not_true, Bool.not_false, beq_self_eq_true, beq_ft, beq_tf, Option.map_none, Int.cast_ofNat_Int, true_and, and_true, Nat.zero_add, Nat.le_refl, Nat.reduceLeDiff, Nat.reduceLT, Nat.reduceSub, Int.reduceAdd, Int.reduceNeg, Int.reduceEq, Int.reduceMul, Int.reduceSub, Nat.reduceEqDiff, Nat.reduceBEq, Nat.add_zero, Nat.reduceDiv, Bool.or_self, reduceIte, Nat.reduceEqDiff, Nat.reduceAdd, Nat.reduceMul]) <;> with_reducible rfl) ?_
  refine W_seq ?_
  refine W_block ?_
  refine W_loop (fun k e h' => ∃ b' l' o', e = [(0, b'), (1, .i .i64 k)] ∧ Buf 1 h' b' (by8 l') o' ∧ Grow o h o' h' ∧ l' ++ num k = l ++ num x ∧ k < 9223372036854775808) x ⟨b, l, o, rfl, hb, .refl _ _, rfl, hx⟩ ?_
  rintro k e h1 ⟨b', l', o', rfl, hb', hg, hnum, hk⟩
  refine W_seq (W_seq ?_)
  refine W_run (by (conv => lhs; simp only [runK, run, guarded, nxt, aop, ev, eget, eput, pureh, Option.map_some, abin, ibin, ishift, sbin, aeq, aeqs, sceq, bindA, keepE, List.map, ptrs, aload, astore, achk, aslice, bnd, amins, amaxs, aidx, aidxa, aidxv, afield, aext, alen, fills, AV.cl, setl, List.set, AH.rd, AH.rdn, blk_alloc, nx_alloc, AV.isUn, List.getElem?_cons_zero, List.getElem?_cons_succ, List.length_cons, List.length_nil, List.drop_zero, List.take_succ_cons, List.take_zero, List.any_cons, List.any_nil, Bool.or_false, Bool.false_eq_true, and_self, if_true, if_false, Int.toNat_zero, Int.reduceToNat, Int.reduceLT, Int.reduceLE, decide_true, decide_false, bne, Bool.not_true, Bool.not_false, beq_self_eq_true, beq_ft, beq_tf, Option.map_none, Int.cast_ofNat_Int, true_and, and_true, Nat.zero_add, Nat.le_refl, Nat.reduceLeDiff, Nat.reduceLT, Nat.reduceSub, Int.reduceAdd, Int.reduceNeg, Int.reduceEq, Int.reduceMul, Int.reduceSub, Nat.reduceEqDiff, Nat.reduceBEq, Nat.add_zero, Nat.reduceDiv, Bool.or_self, reduceIte, Nat.reduceEqDiff, Nat.reduceAdd, Nat.reduceMul]) <;> with_reducible rfl) ?_
  (refine W_cond rfl (fun hx => ?_) (fun hx => ?_) <;> (try rw [hx]) <;> simp only [decide_eq_true_eq, decide_eq_false_iff_not] at hx)
  · refine W_skip ?_
    refine W_seq (W_block (W_reg ?_))
    have hlen : l'.length ≤ l.length + 9 := by
      have h1 := congrArg List.length hnum
      have h2 := num_len x 9 (by omega) (by omega)
      simp at h1
      omega
    have e1 : IntKind.i64.wrap ((k : Int).tdiv 128) = ((k / 128 : Nat) : Int) := by
      rw [Int.tdiv_eq_ediv_of_nonneg (by omega), wi _ (by omega) (by omega)]; omega
    have e2 : AV.i .u8 (IntKind.u8.wrap (IntKind.i64.wrap ((k : Int).tmod 128 + 128))) = .i .u8 ((UInt8.ofNat (k % 128 + 128)).toNat : Int) := by
      rw [Int.tmod_eq_emod_of_nonneg (by omega), wi _ (by omega) (by omega), wrap8]
      rw [show ((k : Int) % 128 + 128) = ((k % 128 + 128 : Nat) : Int) by omega, u8nat]
    obtain ⟨v, h2, o2, ha, hb2, hg2⟩ := app_lit (bytes := 1) hb' (by decide) (by decide) (lit := [.i .u8 (IntKind.u8.wrap (IntKind.i64.wrap ((k : Int).tmod 128 + 128)))]) (n := 1) rfl rfl (by simp [room]; omega)
    refine WO_halt (by (conv => lhs; simp only [runK, run, guarded, nxt, aop, ev, eget, eput, pureh, Option.map_some, abin, ibin, ishift, sbin, aeq, aeqs, sceq, bindA, keepE, List.map, ptrs, aload, astore, achk, aslice, bnd, amins, amaxs, aidx, aidxa, aidxv, afield, aext, alen, fills, AV.cl, setl, List.set, AH.rd, AH.rdn, blk_alloc, nx_alloc, AV.isUn, List.getElem?_cons_zero, List.getElem?_cons_succ, List.length_cons, List.length_nil, List.drop_zero, List.take_succ_cons, List.take_zero, List.any_cons, List.any_nil, Bool.or_false, Bool.false_eq_true, and_self, if_true, if_false, Int.toNat_zero, Int.reduceToNat, Int.reduceLT, Int.reduceLE, decide_true, decide_false, bne, Bool.not_true, Bool.not_false, beq_self_eq_true, beq_ft, beq_tf, Option.map_none, Int.cast_ofNat_Int, true_and, and_true, Nat.zero_add, Nat.le_refl, Nat.reduceLeDiff, Nat.reduceLT, Nat.reduceSub, Int.reduceAdd, Int.reduceNeg, Int.reduceEq, Int.reduceMul, Int.reduceSub, Nat.reduceEqDiff, Nat.reduceBEq, Nat.add_zero, Nat.reduceDiv, Bool.or_self, reduceIte, Nat.reduceEqDiff, Nat.reduceAdd, Nat.reduceMul]) <;> with_reducible rfl) (by exact ha) ?_
    refine WO_fin (by (conv => lhs; simp only [runK, run, guarded, nxt, aop, ev, eget, eput, pureh, Option.map_some, abin, ibin, ishift, sbin, aeq, aeqs, sceq, bindA, keepE, List.map, ptrs, aload, astore, achk, aslice, bnd, amins, amaxs, aidx, aidxa, aidxv, afield, aext, alen, fills, AV.cl, setl, List.set, AH.rd, AH.rdn, blk_alloc, nx_alloc, AV.isUn, List.getElem?_cons_zero, List.getElem?_cons_succ, List.length_cons, List.length_nil, List.drop_zero, List.take_succ_cons, List.take_zero, List.any_cons, List.any_nil, Bool.or_false, Bool.false_eq_true, and_self, if_true, if_false, Int.toNat_zero, Int.reduceToNat, Int.reduceLT, Int.reduceLE, decide_true, decide_false, bne, Bool.not_true, Bool.not_false, beq_self_eq_true, beq_ft, beq_tf, Option.map_none, Int.cast_ofNat_Int, true_and, and_true, Nat.zero_add, Nat.le_refl, Nat.reduceLeDiff, Nat.reduceLT, Nat.reduceSub, Int.reduceAdd, Int.reduceNeg, Int.reduceEq, Int.reduceMul, Int.reduceSub, Nat.reduceEqDiff, Nat.reduceBEq, Nat.add_zero, Nat.reduceDiv, Bool.or_self, reduceIte, Nat.reduceEqDiff, Nat.reduceAdd, Nat.reduceMul]) <;> with_reducible rfl) ?_
    refine W_run (by (conv => lhs; simp only [runK, run, guarded, nxt, aop, ev, eget, eput, pureh, Option.map_some, abin, ibin, ishift, sbin, aeq, aeqs, sceq, bindA, keepE, List.map, ptrs, aload, astore, achk, aslice, bnd, amins, amaxs, aidx, aidxa, aidxv, afield, aext, alen, fills, AV.cl, setl, List.set, AH.rd, AH.rdn, blk_alloc, nx_alloc, AV.isUn, List.getElem?_cons_zero, List.getElem?_cons_succ, List.length_cons, List.length_nil, List.drop_zero, List.take_succ_cons, List.take_zero, List.any_cons, List.any_nil, Bool.or_false, Bool.false_eq_true, and_self, if_true, if_false, Int.toNat_zero, Int.reduceToNat, Int.reduceLT, Int.reduceLE, decide_true, decide_false, bne, Bool.not_true, Bool.not_false, beq_self_eq_true, beq_ft, beq_tf, Option.map_none, Int.cast_ofNat_Int, true_and, and_true, Nat.zero_add, Nat.le_refl, Nat.reduceLeDiff, Nat.reduceLT, Nat.reduceSub, Int.reduceAdd, Int.reduceNeg, Int.reduceEq, Int.reduceMul, Int.reduceSub, Nat.reduceEqDiff, Nat.reduceBEq, Nat.add_zero, Nat.reduceDiv, Bool.or_self, reduceIte, Nat.reduceEqDiff, Nat.reduceAdd, Nat.reduceMul]) <;> with_reducible rfl) ?_
    rw [e1]
    rw [e2] at hb2
    have hn : num k = UInt8.ofNat (k % 128 + 128) :: num (k / 128) := by rw [num, if_neg (by omega)]
    refine ⟨k / 128, by omega, v, l' ++ [UInt8.ofNat (k % 128 + 128)], o2, rfl, by simpa using hb2, hg.trans hg2, by rw [← hnum, hn]; simp, by omega⟩
  · refine W_exit ?_
    have hlen : l'.length ≤ l.length + 9 := by
      have h1 := congrArg List.length hnum
      have h2 := num_len x 9 (by omega) (by omega)
      simp at h1
      omega
    refine W_seq (W_reg ?_)
    obtain ⟨v, h2, o2, ha, hb2, hg2⟩ := app_lit (bytes := 1) hb' (by decide) (by decide) (lit := [.i .u8 (IntKind.u8.wrap k)]) (n := 1) rfl rfl (by simp [room]; omega)
    refine WO_halt (by (conv => lhs; simp only [runK, run, guarded, nxt, aop, ev, eget, eput, pureh, Option.map_some, abin, ibin, ishift, sbin, aeq, aeqs, sceq, bindA, keepE, List.map, ptrs, aload, astore, achk, aslice, bnd, amins, amaxs, aidx, aidxa, aidxv, afield, aext, alen, fills, AV.cl, setl, List.set, AH.rd, AH.rdn, blk_alloc, nx_alloc, AV.isUn, List.getElem?_cons_zero, List.getElem?_cons_succ, List.length_cons, List.length_nil, List.drop_zero, List.take_succ_cons, List.take_zero, List.any_cons, List.any_nil, Bool.or_false, Bool.false_eq_true, and_self, if_true, if_false, Int.toNat_zero, Int.reduceToNat, Int.reduceLT, Int.reduceLE, decide_true, decide_false, bne, Bool.not_true, Bool.not_false, beq_self_eq_true, beq_ft, beq_tf, Option.map_none, Int.cast_ofNat_Int, true_and, and_true, Nat.zero_add, Nat.le_refl, Nat.reduceLeDiff, Nat.reduceLT, Nat.reduceSub, Int.reduceAdd, Int.reduceNeg, Int.reduceEq, Int.reduceMul, Int.reduceSub, Nat.reduceEqDiff, Nat.reduceBEq, Nat.add_zero, Nat.reduceDiv, Bool.or_self, reduceIte, Nat.reduceEqDiff, Nat.reduceAdd, Nat.reduceMul]) <;> with_reducible rfl) (by exact ha) ?_
    refine WO_fin (by (conv => lhs; simp only [runK, run, guarded, nxt, aop, ev, eget, eput, pureh, Option.map_some, abin, ibin, ishift, sbin, aeq, aeqs, sceq, bindA, keepE, List.map, ptrs, aload, astore, achk, aslice, bnd, amins, amaxs, aidx, aidxa, aidxv, afield, aext, alen, fills, AV.cl, setl, List.set, AH.rd, AH.rdn, blk_alloc, nx_alloc, AV.isUn, List.getElem?_cons_zero, List.getElem?_cons_succ, List.length_cons, List.length_nil, List.drop_zero, List.take_succ_cons, List.take_zero, List.any_cons, List.any_nil, Bool.or_false, Bool.false_eq_true, and_self, if_true, if_false, Int.toNat_zero, Int.reduceToNat, Int.reduceLT, Int.reduceLE, decide_true, decide_false, bne, Bool.not_true, Bool.not_false, beq_self_eq_true, beq_ft, beq_tf, Option.map_none, Int.cast_ofNat_Int, true_and, and_true, Nat.zero_add, Nat.le_refl, Nat.reduceLeDiff, Nat.reduceLT, Nat.reduceSub, Int.reduceAdd, Int.reduceNeg, Int.reduceEq, Int.reduceMul, Int.reduceSub, Nat.reduceEqDiff, Nat.reduceBEq, Nat.add_zero, Nat.reduceDiv, Bool.or_self, reduceIte, Nat.reduceEqDiff, Nat.reduceAdd, Nat.reduceMul]) <;> with_reducible rfl) ?_
    refine W_ret ?_
    refine ⟨by first | exact .inr rfl | exact .inl rfl, _, _, (by (conv => lhs; simp only [aress, ares, runK, run, guarded, nxt, aop, ev, eget, eput, pureh, Option.map_some, abin, ibin, ishift, sbin, aeq, aeqs, sceq, bindA, keepE, List.map, ptrs, aload, astore, achk, aslice, bnd, amins, amaxs, aidx, aidxa, aidxv, afield, aext, alen, fills, AV.cl, setl, List.set, AH.rd, AH.rdn, blk_alloc, nx_alloc, AV.isUn, List.getElem?_cons_zero, List.getElem?_cons_succ, List.length_cons, List.length_nil, List.drop_zero, List.take_succ_cons, List.take_zero, List.any_cons, List.any_nil, Bool.or_false, Bool.false_eq_true, and_self, if_true, if_false, Int.toNat_zero, Int.reduceToNat, Int.reduceLT, Int.reduceLE, decide_true, decide_false, bne, Bool.not_true, Bool.not_false, beq_self_eq_true, beq_ft, beq_tf, Option.map_none, Int.cast_ofNat_Int, true_and, and_true, Nat.zero_add, Nat.le_refl, Nat.reduceLeDiff, Nat.reduceLT, Nat.reduceSub, Int.reduceAdd, Int.reduceNeg, Int.reduceEq, Int.reduceMul, Int.reduceSub, Nat.reduceEqDiff, Nat.reduceBEq, Nat.add_zero, Nat.reduceDiv, Bool.or_self, reduceIte, Nat.reduceEqDiff, Nat.reduceAdd, Nat.reduceMul]) <;> with_reducible rfl), rfl, ?_⟩
    have hn : num k = [UInt8.ofNat k] := by rw [num, if_pos (by omega)]
    have e3 : AV.i .u8 (IntKind.u8.wrap k) = .i .u8 ((UInt8.ofNat k).toNat : Int) := by
      rw [wrap8, u8nat]
    rw [e3] at hb2
    refine ⟨o2, ?_, hg.trans hg2⟩
    rw [← hnum, hn]
    simpa using hb2
end Go.Proofs.Ytdcknhimmdmgoaa.Ab
