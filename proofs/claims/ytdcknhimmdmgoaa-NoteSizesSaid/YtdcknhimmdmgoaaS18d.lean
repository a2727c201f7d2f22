/- Chapter 18: a note as bytes. -/
import Derived.Test.YtdcknhimmdmgoaaS18c
namespace Go.Proofs.Ytdcknhimmdmgoaa.Ab
open Go
set_option linter.unusedVariables false
set_option linter.unusedSimpArgs false
variable {T : AT} {h : AH}
def argsN (k a b c : Int) : List Int := [a, b, c].take (usesZ k).toNat
def bodyB (k a b c : Int) : List UInt8 := UInt8.ofInt k :: (argsN k a b c).flatMap fun x => num x.toNat
def preB (k a b c : Int) : List UInt8 := UInt8.ofNat (bodyB k a b c).length :: bodyB k a b c
def sealB (l : List UInt8) : List UInt8 := l ++ [UInt8.ofNat ((sumB l).toNat / 256), UInt8.ofNat ((sumB l).toNat % 256)]
def encB (k a b c : Int) : List UInt8 := sealB (preB k a b c)
structure Tab18 (T : AT) : Prop where
  encode : T i_note_Encode = some (.fn c_note_Encode)
  check : T i_note_Check = some (.fn c_note_Check)
  uses : T i_note_uses = some (.fn c_note_uses)
  number : T i_note_number = some (.fn c_note_number)
  sum : T i_crc_Sum = some (.fn c_crc_Sum)
  step : T i_crc_Step = some (.fn c_crc_Step)
theorem num_len5 (x : Int) (h0 : 0 ≤ x) (h1 : x ≤ 2147483647) : (num x.toNat).length ≤ 5 := num_len _ 5 (by omega) (by omega)
theorem flat_len {l : List Int} (h : ∀ x ∈ l, 0 ≤ x ∧ x ≤ 2147483647) : (l.flatMap fun x => num x.toNat).length ≤ 5 * l.length := by
  induction l with
  | nil => simp
  | cons x l ih =>
    have h1 := num_len5 x (h x (.head _)).1 (h x (.head _)).2
    have h2 := ih fun y hy => h y (.tail _ hy)
    simp only [List.flatMap_cons, List.length_append, List.length_cons]
    omega
theorem encode_spec (t : Tab18 T) (k a b c : Int) :
    Ret T i_note_Encode [.agg [.i .i64 k, .i .i64 a, .i .i64 b, .i .i64 c]] h (fun v h' => Ext h h' ∧
      (goodN k a b c → ∃ s o, v = .tup [s, .i .i64 0] ∧ Buf 1 h' s (by8 (encB k a b c)) o ∧ ∀ i, o = some i → h.next ≤ i) ∧ (¬ goodN k a b c → v = .tup [.nils, .i .i64 180])) := by
  refine Ret_fn t.encode rfl rfl ?_
  refine W_seq ?_
  refine W_run (by (conv => lhs; simp only [runK, run, guarded, nxt, aop, ev, eget, eput, pureh, Option.map_some, abin, ibin, ishift, sbin, aeq, aeqs, sceq, bindA, keepE, List.map, ptrs, aload, astore, achk, aslice, bnd, amins, amaxs, aidx, aidxa, aidxv, afield, aext, alen, fills, AV.cl, setl, List.set, AH.rd, AH.rdn, blk_alloc, nx_alloc, AV.isUn, List.getElem?_cons_zero, List.getElem?_cons_succ, List.length_cons, List.length_nil, List.drop_zero, List.take_succ_cons, List.take_zero, List.any_cons, List.any_nil, Bool.or_false, Bool.false_eq_true, and_self, if_true, if_false, Int.toNat_zero, Int.reduceToNat, Int.reduceLT, Int.reduceLE, decide_true, decide_false, bne, Bool.not_true, Bool.not_false, beq_self_eq_true, beq_ft, beq_tf, Option.map_none, Int.cast_ofNat_Int, true_and, and_true, Nat.zero_add, Nat.le_refl, Nat.reduceLeDiff, Nat.reduceLT, Nat.reduceSub, Int.reduceAdd, Int.reduceNeg, Int.reduceEq, Int.reduceMul, Int.reduceSub, Nat.reduceEqDiff, Nat.reduceBEq, Nat.add_zero, Nat.reduceDiv, Bool.or_self, reduceIte, Nat.reduceEqDiff, Nat.reduceAdd, Nat.reduceMul]) <;> with_reducible rfl) ?_
  have hb0 := blk_alloc h (.row [.i .i64 k, .i .i64 a, .i .i64 b, .i .i64 c] false)
  have hx0 := ext_alloc h (.row [.i .i64 k, .i .i64 a, .i .i64 b, .i .i64 c] false)
  have hn0 : h.next < (h.alloc (.row [.i .i64 k, .i .i64 a, .i .i64 b, .i .i64 c] false)).next := Nat.lt_succ_self _
  generalize h.alloc (.row [.i .i64 k, .i .i64 a, .i .i64 b, .i .i64 c] false) = h0 at hb0 hx0 hn0 ⊢
  repeat' (first | refine W_seq ?_ | refine W_block ?_)
  refine W_reg ?_
  refine WO_run (by (conv => lhs; simp only [runK, run, guarded, nxt, aop, ev, eget, eput, pureh, Option.map_some, abin, ibin, ishift, sbin, aeq, aeqs, sceq, bindA, keepE, List.map, ptrs, aload, astore, achk, aslice, bnd, amins, amaxs, aidx, aidxa, aidxv, afield, aext, alen, fills, AV.cl, setl, List.set, AH.rd, AH.rdn, blk_alloc, nx_alloc, AV.isUn, List.getElem?_cons_zero, List.getElem?_cons_succ, List.length_cons, List.length_nil, List.drop_zero, List.take_succ_cons, List.take_zero, List.any_cons, List.any_nil, Bool.or_false, Bool.false_eq_true, and_self, if_true, if_false, Int.toNat_zero, Int.reduceToNat, Int.reduceLT, Int.reduceLE, decide_true, decide_false, bne, Bool.not_true, Bool.not_false, beq_self_eq_true, beq_ft, beq_tf, Option.map_none, Int.cast_ofNat_Int, true_and, and_true, Nat.zero_add, Nat.le_refl, Nat.reduceLeDiff, Nat.reduceLT, Nat.reduceSub, Int.reduceAdd, Int.reduceNeg, Int.reduceEq, Int.reduceMul, Int.reduceSub, Nat.reduceEqDiff, Nat.reduceBEq, Nat.add_zero, Nat.reduceDiv, Bool.or_self, reduceIte, Nat.reduceEqDiff, Nat.reduceAdd, Nat.reduceMul, hb0, Nat.zero_add, Nat.reduceLeDiff, Nat.le_refl, List.take_succ_cons, Bool.or_self]) <;> rfl) ?_
  refine (check_spec t.check t.uses k a b c).mono ?_
  rintro v h1 ⟨rfl, hx1⟩
  have hb1 := hx1.blk hb0 hn0
  have hn1 : h.next < h1.next := Nat.lt_of_lt_of_le hn0 hx1.1
  have hxx := hx0.ext hx1
  refine WO_fin (by (conv => lhs; simp only [runK, run, guarded, nxt, aop, ev, eget, eput, pureh, Option.map_some, abin, ibin, ishift, sbin, aeq, aeqs, sceq, bindA, keepE, List.map, ptrs, aload, astore, achk, aslice, bnd, amins, amaxs, aidx, aidxa, aidxv, afield, aext, alen, fills, AV.cl, setl, List.set, AH.rd, AH.rdn, blk_alloc, nx_alloc, AV.isUn, List.getElem?_cons_zero, List.getElem?_cons_succ, List.length_cons, List.length_nil, List.drop_zero, List.take_succ_cons, List.take_zero, List.any_cons, List.any_nil, Bool.or_false, Bool.false_eq_true, and_self, if_true, if_false, Int.toNat_zero, Int.reduceToNat, Int.reduceLT, Int.reduceLE, decide_true, decide_false, bne, Bool.not_true, Bool.not_false, beq_self_eq_true, beq_ft, beq_tf, Option.map_none, Int.cast_ofNat_Int, true_and, and_true, Nat.zero_add, Nat.le_refl, Nat.reduceLeDiff, Nat.reduceLT, Nat.reduceSub, Int.reduceAdd, Int.reduceNeg, Int.reduceEq, Int.reduceMul, Int.reduceSub, Nat.reduceEqDiff, Nat.reduceBEq, Nat.add_zero, Nat.reduceDiv, Bool.or_self, reduceIte, Nat.reduceEqDiff, Nat.reduceAdd, Nat.reduceMul]) <;> with_reducible rfl) ?_
  refine W_seq ?_
  rcases Decidable.em (goodN k a b c) with hg | hg
  · rw [if_pos hg]
    refine W_run (by (conv => lhs; simp only [runK, run, guarded, nxt, aop, ev, eget, eput, pureh, Option.map_some, abin, ibin, ishift, sbin, aeq, aeqs, sceq, bindA, keepE, List.map, ptrs, aload, astore, achk, aslice, bnd, amins, amaxs, aidx, aidxa, aidxv, afield, aext, alen, fills, AV.cl, setl, List.set, AH.rd, AH.rdn, blk_alloc, nx_alloc, AV.isUn, List.getElem?_cons_zero, List.getElem?_cons_succ, List.length_cons, List.length_nil, List.drop_zero, List.take_succ_cons, List.take_zero, List.any_cons, List.any_nil, Bool.or_false, Bool.false_eq_true, and_self, if_true, if_false, Int.toNat_zero, Int.reduceToNat, Int.reduceLT, Int.reduceLE, decide_true, decide_false, bne, Bool.not_true, Bool.not_false, beq_self_eq_true, beq_ft, beq_tf, Option.map_none, Int.cast_ofNat_Int, true_and, and_true, Nat.zero_add, Nat.le_refl, Nat.reduceLeDiff, Nat.reduceLT, Nat.reduceSub, Int.reduceAdd, Int.reduceNeg, Int.reduceEq, Int.reduceMul, Int.reduceSub, Nat.reduceEqDiff, Nat.reduceBEq, Nat.add_zero, Nat.reduceDiv, Bool.or_self, reduceIte, Nat.reduceEqDiff, Nat.reduceAdd, Nat.reduceMul, Int.reduceEq]) <;> with_reducible rfl) ?_
    refine W_false rfl (W_skip ?_)
    repeat' (first | refine W_seq ?_ | refine W_block ?_)
    refine W_run (by (conv => lhs; simp only [runK, run, guarded, nxt, aop, ev, eget, eput, pureh, Option.map_some, abin, ibin, ishift, sbin, aeq, aeqs, sceq, bindA, keepE, List.map, ptrs, aload, astore, achk, aslice, bnd, amins, amaxs, aidx, aidxa, aidxv, afield, aext, alen, fills, AV.cl, setl, List.set, AH.rd, AH.rdn, blk_alloc, nx_alloc, AV.isUn, List.getElem?_cons_zero, List.getElem?_cons_succ, List.length_cons, List.length_nil, List.drop_zero, List.take_succ_cons, List.take_zero, List.any_cons, List.any_nil, Bool.or_false, Bool.false_eq_true, and_self, if_true, if_false, Int.toNat_zero, Int.reduceToNat, Int.reduceLT, Int.reduceLE, decide_true, decide_false, bne, Bool.not_true, Bool.not_false, beq_self_eq_true, beq_ft, beq_tf, Option.map_none, Int.cast_ofNat_Int, true_and, and_true, Nat.zero_add, Nat.le_refl, Nat.reduceLeDiff, Nat.reduceLT, Nat.reduceSub, Int.reduceAdd, Int.reduceNeg, Int.reduceEq, Int.reduceMul, Int.reduceSub, Nat.reduceEqDiff, Nat.reduceBEq, Nat.add_zero, Nat.reduceDiv, Bool.or_self, reduceIte, Nat.reduceEqDiff, Nat.reduceAdd, Nat.reduceMul, hb1]) <;> with_reducible rfl) ?_
    have hb2 := blk_alloc h1 (.row [.i .u8 0, .i .u8 (IntKind.u8.wrap k)] false)
    have hx2 := ext_alloc h1 (.row [.i .u8 0, .i .u8 (IntKind.u8.wrap k)] false)
    have hn2 : h1.next < (h1.alloc (.row [.i .u8 0, .i .u8 (IntKind.u8.wrap k)] false)).next := Nat.lt_succ_self _
    have hbuf : Buf 1 (h1.alloc (.row [.i .u8 0, .i .u8 (IntKind.u8.wrap k)] false)) (.sl h1.next 0 2 2 0) _ (some h1.next) := Buf.make h1 rfl (.inl rfl) rfl
    generalize h1.alloc (.row [.i .u8 0, .i .u8 (IntKind.u8.wrap k)] false) = h2 at hb2 hx2 hn2 hbuf ⊢
    have hc2 := hx2.blk hb1 hn1
    repeat' (first | refine W_seq ?_ | refine W_block ?_)
    refine W_reg ?_
    have ha : astore 3 (.ptr h2.next 0) (.agg [.i .i64 a, .i .i64 b, .i .i64 c]) (h2.alloc (.row [.i .i64 0, .i .i64 0, .i .i64 0] false)) = some (.tup [], h2.alloc (.row [.i .i64 a, .i .i64 b, .i .i64 c] false)) := by
      simp [astore, AV.cl, AH.wr, blk_alloc, setl, alloc_set]
    refine WO_halt (by (conv => lhs; simp only [runK, run, guarded, nxt, aop, ev, eget, eput, pureh, Option.map_some, abin, ibin, ishift, sbin, aeq, aeqs, sceq, bindA, keepE, List.map, ptrs, aload, astore, achk, aslice, bnd, amins, amaxs, aidx, aidxa, aidxv, afield, aext, alen, fills, AV.cl, setl, List.set, AH.rd, AH.rdn, blk_alloc, nx_alloc, AV.isUn, List.getElem?_cons_zero, List.getElem?_cons_succ, List.length_cons, List.length_nil, List.drop_zero, List.take_succ_cons, List.take_zero, List.any_cons, List.any_nil, Bool.or_false, Bool.false_eq_true, and_self, if_true, if_false, Int.toNat_zero, Int.reduceToNat, Int.reduceLT, Int.reduceLE, decide_true, decide_false, bne, Bool.not_true, Bool.not_false, beq_self_eq_true, beq_ft, beq_tf, Option.map_none, Int.cast_ofNat_Int, true_and, and_true, Nat.zero_add, Nat.le_refl, Nat.reduceLeDiff, Nat.reduceLT, Nat.reduceSub, Int.reduceAdd, Int.reduceNeg, Int.reduceEq, Int.reduceMul, Int.reduceSub, Nat.reduceEqDiff, Nat.reduceBEq, Nat.add_zero, Nat.reduceDiv, Bool.or_self, reduceIte, Nat.reduceEqDiff, Nat.reduceAdd, Nat.reduceMul, hc2]) <;> with_reducible rfl) (by exact ha) ?_
    refine WO_fin (by (conv => lhs; simp only [runK, run, guarded, nxt, aop, ev, eget, eput, pureh, Option.map_some, abin, ibin, ishift, sbin, aeq, aeqs, sceq, bindA, keepE, List.map, ptrs, aload, astore, achk, aslice, bnd, amins, amaxs, aidx, aidxa, aidxv, afield, aext, alen, fills, AV.cl, setl, List.set, AH.rd, AH.rdn, blk_alloc, nx_alloc, AV.isUn, List.getElem?_cons_zero, List.getElem?_cons_succ, List.length_cons, List.length_nil, List.drop_zero, List.take_succ_cons, List.take_zero, List.any_cons, List.any_nil, Bool.or_false, Bool.false_eq_true, and_self, if_true, if_false, Int.toNat_zero, Int.reduceToNat, Int.reduceLT, Int.reduceLE, decide_true, decide_false, bne, Bool.not_true, Bool.not_false, beq_self_eq_true, beq_ft, beq_tf, Option.map_none, Int.cast_ofNat_Int, true_and, and_true, Nat.zero_add, Nat.le_refl, Nat.reduceLeDiff, Nat.reduceLT, Nat.reduceSub, Int.reduceAdd, Int.reduceNeg, Int.reduceEq, Int.reduceMul, Int.reduceSub, Nat.reduceEqDiff, Nat.reduceBEq, Nat.add_zero, Nat.reduceDiv, Bool.or_self, reduceIte, Nat.reduceEqDiff, Nat.reduceAdd, Nat.reduceMul]) <;> with_reducible rfl) ?_
    have hb3 := blk_alloc h2 (.row [.i .i64 a, .i .i64 b, .i .i64 c] false)
    have hx3 := ext_alloc h2 (.row [.i .i64 a, .i .i64 b, .i .i64 c] false)
    have hn3 : h2.next < (h2.alloc (.row [.i .i64 a, .i .i64 b, .i .i64 c] false)).next := Nat.lt_succ_self _
    generalize h2.alloc (.row [.i .i64 a, .i .i64 b, .i .i64 c] false) = h3 at hb3 hx3 hn3 ⊢
    have hc3 := hx3.blk hc2 (by omega)
    have hbuf3 := hbuf.ext hx3
    clear ha
    repeat' (first | refine W_seq ?_ | refine W_block ?_)
    refine W_reg ?_
    refine WO_run (by (conv => lhs; simp only [runK, run, guarded, nxt, aop, ev, eget, eput, pureh, Option.map_some, abin, ibin, ishift, sbin, aeq, aeqs, sceq, bindA, keepE, List.map, ptrs, aload, astore, achk, aslice, bnd, amins, amaxs, aidx, aidxa, aidxv, afield, aext, alen, fills, AV.cl, setl, List.set, AH.rd, AH.rdn, blk_alloc, nx_alloc, AV.isUn, List.getElem?_cons_zero, List.getElem?_cons_succ, List.length_cons, List.length_nil, List.drop_zero, List.take_succ_cons, List.take_zero, List.any_cons, List.any_nil, Bool.or_false, Bool.false_eq_true, and_self, if_true, if_false, Int.toNat_zero, Int.reduceToNat, Int.reduceLT, Int.reduceLE, decide_true, decide_false, bne, Bool.not_true, Bool.not_false, beq_self_eq_true, beq_ft, beq_tf, Option.map_none, Int.cast_ofNat_Int, true_and, and_true, Nat.zero_add, Nat.le_refl, Nat.reduceLeDiff, Nat.reduceLT, Nat.reduceSub, Int.reduceAdd, Int.reduceNeg, Int.reduceEq, Int.reduceMul, Int.reduceSub, Nat.reduceEqDiff, Nat.reduceBEq, Nat.add_zero, Nat.reduceDiv, Bool.or_self, reduceIte, Nat.reduceEqDiff, Nat.reduceAdd, Nat.reduceMul, hc3]) <;> with_reducible rfl) ?_
    refine (uses_spec t.uses k).mono ?_
    rintro v h4 ⟨rfl, rfl⟩
    obtain ⟨u, hu, hu1, hu3⟩ : ∃ u : Nat, usesZ k = (u : Int) ∧ 1 ≤ u ∧ u ≤ 3 := by
      have h1 := hg.2.2.2.1
      refine ⟨(usesZ k).toNat, by omega, ?_, ?_⟩ <;> (unfold usesZ at *; (repeat' split) <;> simp_all)
    have hcut : aarrcut 3 1 (.ptr h2.next 0) none (some (.i .i64 (u : Int))) = some (.sl h2.next 0 u 3 0) := by
      simp only [aarrcut, bnd]
      rw [if_pos (by omega)]
      simp
    have hbuf4 : Buf 1 h4 (.sl h1.next 0 2 2 0) (by8 [0, UInt8.ofInt k]) (some h1.next) := by
      rw [wrap8] at hbuf3
      exact hbuf3
    have hin : ∀ x ∈ [a, b, c].take u, 0 ≤ x ∧ x ≤ 2147483647 := fun x hx => by
      have := List.mem_of_mem_take hx
      obtain ⟨ga, gb, gc, _⟩ := hg
      unfold within at ga gb gc
      simp only [List.mem_cons, List.not_mem_nil, or_false] at this
      rcases this with rfl | rfl | rfl <;> omega
    rw [hu]
    refine WO_fin (by (conv => lhs; simp only [runK, run, guarded, nxt, aop, ev, eget, eput, pureh, Option.map_some, abin, ibin, ishift, sbin, aeq, aeqs, sceq, bindA, keepE, List.map, ptrs, aload, astore, achk, aslice, bnd, amins, amaxs, aidx, aidxa, aidxv, afield, aext, alen, fills, AV.cl, setl, List.set, AH.rd, AH.rdn, blk_alloc, nx_alloc, AV.isUn, List.getElem?_cons_zero, List.getElem?_cons_succ, List.length_cons, List.length_nil, List.drop_zero, List.take_succ_cons, List.take_zero, List.any_cons, List.any_nil, Bool.or_false, Bool.false_eq_true, and_self, if_true, if_false, Int.toNat_zero, Int.reduceToNat, Int.reduceLT, Int.reduceLE, decide_true, decide_false, bne, Bool.not_true, Bool.not_false, beq_self_eq_true, beq_ft, beq_tf, Option.map_none, Int.cast_ofNat_Int, true_and, and_true, Nat.zero_add, Nat.le_refl, Nat.reduceLeDiff, Nat.reduceLT, Nat.reduceSub, Int.reduceAdd, Int.reduceNeg, Int.reduceEq, Int.reduceMul, Int.reduceSub, Nat.reduceEqDiff, Nat.reduceBEq, Nat.add_zero, Nat.reduceDiv, Bool.or_self, reduceIte, Nat.reduceEqDiff, Nat.reduceAdd, Nat.reduceMul, hcut]) <;> with_reducible rfl) ?_
    have hargs : argsN k a b c = [a, b, c].take u := by simp [argsN, hu]
    clear hbuf3 hbuf hb2 hc2 hcut
    have hrow : ([a, b, c].map (AV.i .i64)) = [AV.i .i64 a, .i .i64 b, .i .i64 c] := rfl
    rw [← hrow] at hb3
    have hll : [a, b, c].length = 3 := rfl
    generalize hL : [a, b, c] = L at hb3 hargs hin hll
    refine W_block (W_loop (fun m e h' => ∃ (j : Nat) (s : AV) (o : Option Nat), j + m = u ∧ e = [(5, s), (29, .sl h2.next 0 u 3 0), (30, .i .i64 u), (31, .i .i64 j)] ∧
      Buf 1 h' s (by8 (0 :: UInt8.ofInt k :: (L.take j).flatMap fun x => num x.toNat)) o ∧ Grow (some h1.next) h4 o h') u ⟨0, _, _, by omega, rfl, by simpa using hbuf4, .refl _ _⟩ ?_)
    rintro m e h5 ⟨j, s, o, hj, rfl, hbuf5, hg5⟩
    repeat' (first | refine W_seq ?_ | refine W_block ?_)
    refine W_run (by (conv => lhs; simp only [runK, run, guarded, nxt, aop, ev, eget, eput, pureh, Option.map_some, abin, ibin, ishift, sbin, aeq, aeqs, sceq, bindA, keepE, List.map, ptrs, aload, astore, achk, aslice, bnd, amins, amaxs, aidx, aidxa, aidxv, afield, aext, alen, fills, AV.cl, setl, List.set, AH.rd, AH.rdn, blk_alloc, nx_alloc, AV.isUn, List.getElem?_cons_zero, List.getElem?_cons_succ, List.length_cons, List.length_nil, List.drop_zero, List.take_succ_cons, List.take_zero, List.any_cons, List.any_nil, Bool.or_false, Bool.false_eq_true, and_self, if_true, if_false, Int.toNat_zero, Int.reduceToNat, Int.reduceLT, Int.reduceLE, decide_true, decide_false, bne, Bool.not_true, Bool.not_false, beq_self_eq_true, beq_ft, beq_tf, Option.map_none, Int.cast_ofNat_Int, true_and, and_true, Nat.zero_add, Nat.le_refl, Nat.reduceLeDiff, Nat.reduceLT, Nat.reduceSub, Int.reduceAdd, Int.reduceNeg, Int.reduceEq, Int.reduceMul, Int.reduceSub, Nat.reduceEqDiff, Nat.reduceBEq, Nat.add_zero, Nat.reduceDiv, Bool.or_self, reduceIte, Nat.reduceEqDiff, Nat.reduceAdd, Nat.reduceMul]) <;> with_reducible rfl) ?_
    repeat' (first | refine W_seq ?_ | refine W_block ?_)
    (refine W_cond rfl (fun hx => ?_) (fun hx => ?_) <;> (try rw [hx]) <;> simp only [decide_eq_true_eq, decide_eq_false_iff_not] at hx)
    · refine W_skip ?_
      repeat' (first | refine W_seq ?_ | refine W_block ?_)
      have hjL : j < L.length := by omega
      have hne : o ≠ some h2.next := by
        rcases hg5.2.2 with e | e | ⟨i, e, hi⟩ <;> rw [e] <;> simp <;> omega
      have hb5 := hg5.blk hb3 hn3 (by simp; omega)
      have hidx : aidx 1 (.sl h2.next 0 u 3 0) (.i .i64 (j : Int)) = some (.ptr h2.next j) := by
        simp only [aidx]
        rw [if_pos (by omega)]
        simp
      obtain ⟨x, hxj, hxl⟩ : ∃ x : Nat, L[j] = (x : Int) ∧ x ≤ 2147483647 := by
        have := hin L[j] (List.mem_take_iff_getElem.2 ⟨j, by omega, rfl⟩)
        exact ⟨L[j].toNat, by omega, by omega⟩
      have hrd : h5.rd h2.next j = some (.i .i64 x) := rd_of_blk hb5 (by simp [hjL, hxj]) rfl
      have hlen5 : ((L.take j).flatMap fun x => num x.toNat).length ≤ 100 := by
        have := flat_len (l := L.take j) (fun x hx => hin x (List.mem_of_mem_take (i := j) (by rwa [List.take_take, Nat.min_eq_left (by omega)])))
        simp only [List.length_take] at this
        omega
      refine W_run (by (conv => lhs; simp only [runK, run, guarded, nxt, aop, ev, eget, eput, pureh, Option.map_some, abin, ibin, ishift, sbin, aeq, aeqs, sceq, bindA, keepE, List.map, ptrs, aload, astore, achk, bnd, amins, amaxs, aidxa, aidxv, afield, aext, fills, AV.cl, setl, List.set, blk_alloc, nx_alloc, AV.isUn, List.getElem?_cons_zero, List.getElem?_cons_succ, List.length_cons, List.length_nil, List.drop_zero, List.take_succ_cons, List.take_zero, List.any_cons, List.any_nil, Bool.or_false, Bool.false_eq_true, and_self, if_true, if_false, Int.toNat_zero, Int.reduceToNat, Int.reduceLT, Int.reduceLE, decide_true, decide_false, bne, Bool.not_true, Bool.not_false, beq_self_eq_true, beq_ft, beq_tf, Option.map_none, Int.cast_ofNat_Int, true_and, and_true, Nat.zero_add, Nat.le_refl, Nat.reduceLeDiff, Nat.reduceLT, Nat.reduceSub, Int.reduceAdd, Int.reduceNeg, Int.reduceEq, Int.reduceMul, Int.reduceSub, Nat.reduceEqDiff, Nat.reduceBEq, Nat.add_zero, Nat.reduceDiv, Bool.or_self, reduceIte, Nat.reduceEqDiff, Nat.reduceAdd, Nat.reduceMul, hidx, hrd]) <;> with_reducible rfl) ?_
      refine W_reg ?_
      refine WO_run (by (conv => lhs; simp only [runK, run, guarded, nxt, aop, ev, eget, eput, pureh, Option.map_some, abin, ibin, ishift, sbin, aeq, aeqs, sceq, bindA, keepE, List.map, ptrs, aload, astore, achk, aslice, bnd, amins, amaxs, aidx, aidxa, aidxv, afield, aext, alen, fills, AV.cl, setl, List.set, AH.rd, AH.rdn, blk_alloc, nx_alloc, AV.isUn, List.getElem?_cons_zero, List.getElem?_cons_succ, List.length_cons, List.length_nil, List.drop_zero, List.take_succ_cons, List.take_zero, List.any_cons, List.any_nil, Bool.or_false, Bool.false_eq_true, and_self, if_true, if_false, Int.toNat_zero, Int.reduceToNat, Int.reduceLT, Int.reduceLE, decide_true, decide_false, bne, Bool.not_true, Bool.not_false, beq_self_eq_true, beq_ft, beq_tf, Option.map_none, Int.cast_ofNat_Int, true_and, and_true, Nat.zero_add, Nat.le_refl, Nat.reduceLeDiff, Nat.reduceLT, Nat.reduceSub, Int.reduceAdd, Int.reduceNeg, Int.reduceEq, Int.reduceMul, Int.reduceSub, Nat.reduceEqDiff, Nat.reduceBEq, Nat.add_zero, Nat.reduceDiv, Bool.or_self, reduceIte, Nat.reduceEqDiff, Nat.reduceAdd, Nat.reduceMul]) <;> with_reducible rfl) ?_
      refine (number_spec t.number s _ o x hbuf5 (by simp only [List.length_cons]; omega) (by omega)).mono ?_
      rintro v h6 ⟨o6, hb6, hg6⟩
      refine WO_fin (by (conv => lhs; simp only [runK, run, guarded, nxt, aop, ev, eget, eput, pureh, Option.map_some, abin, ibin, ishift, sbin, aeq, aeqs, sceq, bindA, keepE, List.map, ptrs, aload, astore, achk, aslice, bnd, amins, amaxs, aidx, aidxa, aidxv, afield, aext, alen, fills, AV.cl, setl, List.set, AH.rd, AH.rdn, blk_alloc, nx_alloc, AV.isUn, List.getElem?_cons_zero, List.getElem?_cons_succ, List.length_cons, List.length_nil, List.drop_zero, List.take_succ_cons, List.take_zero, List.any_cons, List.any_nil, Bool.or_false, Bool.false_eq_true, and_self, if_true, if_false, Int.toNat_zero, Int.reduceToNat, Int.reduceLT, Int.reduceLE, decide_true, decide_false, bne, Bool.not_true, Bool.not_false, beq_self_eq_true, beq_ft, beq_tf, Option.map_none, Int.cast_ofNat_Int, true_and, and_true, Nat.zero_add, Nat.le_refl, Nat.reduceLeDiff, Nat.reduceLT, Nat.reduceSub, Int.reduceAdd, Int.reduceNeg, Int.reduceEq, Int.reduceMul, Int.reduceSub, Nat.reduceEqDiff, Nat.reduceBEq, Nat.add_zero, Nat.reduceDiv, Bool.or_self, reduceIte, Nat.reduceEqDiff, Nat.reduceAdd, Nat.reduceMul]) <;> with_reducible rfl) ?_
      refine W_run (e' := [(5, v), (29, .sl h2.next 0 u 3 0), (30, .i .i64 u), (31, .i .i64 (j + 1 : Nat))]) (h' := h6) ?_ ?_
      · simp only [runK, run, guarded, nxt, aop, ev, eget, eput, pureh, Option.map_some, abin, ibin, ishift, sbin, aeq, aeqs, sceq, bindA, keepE, List.map, ptrs, aload, astore, achk, aslice, bnd, amins, amaxs, aidx, aidxa, aidxv, afield, aext, alen, fills, AV.cl, setl, List.set, AH.rd, AH.rdn, blk_alloc, nx_alloc, AV.isUn, List.getElem?_cons_zero, List.getElem?_cons_succ, List.length_cons, List.length_nil, List.drop_zero, List.take_succ_cons, List.take_zero, List.any_cons, List.any_nil, Bool.or_false, Bool.false_eq_true, and_self, if_true, if_false, Int.toNat_zero, Int.reduceToNat, Int.reduceLT, Int.reduceLE, decide_true, decide_false, bne, Bool.not_true, Bool.not_false, beq_self_eq_true, beq_ft, beq_tf, Option.map_none, Int.cast_ofNat_Int, true_and, and_true, Nat.zero_add, Nat.le_refl, Nat.reduceLeDiff, Nat.reduceLT, Nat.reduceSub, Int.reduceAdd, Int.reduceNeg, Int.reduceEq, Int.reduceMul, Int.reduceSub, Nat.reduceEqDiff, Nat.reduceBEq, Nat.add_zero, Nat.reduceDiv, Bool.or_self, reduceIte, Nat.reduceEqDiff, Nat.reduceAdd, Nat.reduceMul]
        rw [wi _ (by omega) (by omega)]
        rfl
      refine ⟨u - (j + 1), by omega, j + 1, v, o6, by omega, rfl, ?_, hg5.trans hg6⟩
      have hf : (L.take (j + 1)).flatMap (fun x => num x.toNat) = (L.take j).flatMap (fun x => num x.toNat) ++ num x := by
        rw [List.take_add_one, List.getElem?_eq_getElem hjL, hxj]
        simp only [Option.toList_some, List.flatMap_append, List.flatMap_cons, List.flatMap_nil, List.append_nil, Int.toNat_natCast]
      rw [hf]
      exact hb6
    · refine W_exit ?_
      have : j = u := by omega
      subst this
      rw [← hargs] at hbuf5
      change Buf 1 h5 s (by8 (0 :: bodyB k a b c)) o at hbuf5
      repeat' (first | refine W_seq ?_ | refine W_block ?_)
      refine W_reg ?_
      have hin' : ∀ x ∈ argsN k a b c, 0 ≤ x ∧ x ≤ 2147483647 := by rw [hargs]; exact hin
      have hbl : (bodyB k a b c).length ≤ 100 := by
        have := flat_len hin'
        have : (argsN k a b c).length ≤ 3 := by rw [hargs]; simp; omega
        simp only [bodyB, List.length_cons]
        omega
      have halen : alen .sl s h5 = some (.i .i64 ((bodyB k a b c).length + 1 : Nat)) := by simpa using hbuf5.sli.len (by decide)
      obtain ⟨id, off, h6, hidx, ho, ha, hb6, hg6⟩ := buf_set hbuf5 (by decide) (j := 0) (by simp) (x := .i .u8 (IntKind.u8.wrap (IntKind.i64.wrap (((bodyB k a b c).length + 1 : Nat) - 1 : Int)))) rfl rfl rfl
      have hidx : aidx 1 s (.i .i64 0) = some (.ptr id off) := hidx
      refine WO_halt (by (conv => lhs; simp only [runK, run, guarded, nxt, aop, ev, eget, eput, pureh, Option.map_some, abin, ibin, ishift, sbin, aeq, aeqs, sceq, bindA, keepE, List.map, ptrs, aload, astore, achk, bnd, amins, amaxs, aidxa, aidxv, afield, aext, fills, AV.cl, setl, List.set, blk_alloc, nx_alloc, AV.isUn, List.getElem?_cons_zero, List.getElem?_cons_succ, List.length_cons, List.length_nil, List.drop_zero, List.take_succ_cons, List.take_zero, List.any_cons, List.any_nil, Bool.or_false, Bool.false_eq_true, and_self, if_true, if_false, Int.toNat_zero, Int.reduceToNat, Int.reduceLT, Int.reduceLE, decide_true, decide_false, bne, Bool.not_true, Bool.not_false, beq_self_eq_true, beq_ft, beq_tf, Option.map_none, Int.cast_ofNat_Int, true_and, and_true, Nat.zero_add, Nat.le_refl, Nat.reduceLeDiff, Nat.reduceLT, Nat.reduceSub, Int.reduceAdd, Int.reduceNeg, Int.reduceEq, Int.reduceMul, Int.reduceSub, Nat.reduceEqDiff, Nat.reduceBEq, Nat.add_zero, Nat.reduceDiv, Bool.or_self, reduceIte, Nat.reduceEqDiff, Nat.reduceAdd, Nat.reduceMul, halen, hidx]) <;> with_reducible rfl) (by exact ha) ?_
      refine WO_fin (by (conv => lhs; simp only [runK, run, guarded, nxt, aop, ev, eget, eput, pureh, Option.map_some, abin, ibin, ishift, sbin, aeq, aeqs, sceq, bindA, keepE, List.map, ptrs, aload, astore, achk, aslice, bnd, amins, amaxs, aidx, aidxa, aidxv, afield, aext, alen, fills, AV.cl, setl, List.set, AH.rd, AH.rdn, blk_alloc, nx_alloc, AV.isUn, List.getElem?_cons_zero, List.getElem?_cons_succ, List.length_cons, List.length_nil, List.drop_zero, List.take_succ_cons, List.take_zero, List.any_cons, List.any_nil, Bool.or_false, Bool.false_eq_true, and_self, if_true, if_false, Int.toNat_zero, Int.reduceToNat, Int.reduceLT, Int.reduceLE, decide_true, decide_false, bne, Bool.not_true, Bool.not_false, beq_self_eq_true, beq_ft, beq_tf, Option.map_none, Int.cast_ofNat_Int, true_and, and_true, Nat.zero_add, Nat.le_refl, Nat.reduceLeDiff, Nat.reduceLT, Nat.reduceSub, Int.reduceAdd, Int.reduceNeg, Int.reduceEq, Int.reduceMul, Int.reduceSub, Nat.reduceEqDiff, Nat.reduceBEq, Nat.add_zero, Nat.reduceDiv, Bool.or_self, reduceIte, Nat.reduceEqDiff, Nat.reduceAdd, Nat.reduceMul]) <;> with_reducible rfl) ?_
      have hb7 : Buf 1 h6 s (by8 (preB k a b c)) o := by
        have e : AV.i .u8 (IntKind.u8.wrap (IntKind.i64.wrap (((bodyB k a b c).length + 1 : Nat) - 1 : Int))) = .i .u8 ((UInt8.ofNat (bodyB k a b c).length).toNat : Int) := by
          rw [wi _ (by omega) (by omega), show (((bodyB k a b c).length + 1 : Nat) - 1 : Int) = ((bodyB k a b c).length : Int) by omega, wrap8, u8nat]
        rw [e] at hb6
        exact hb6
      clear ha hb6
      repeat' (first | refine W_seq ?_ | refine W_block ?_)
      refine W_reg ?_
      refine WO_run (by (conv => lhs; simp only [runK, run, guarded, nxt, aop, ev, eget, eput, pureh, Option.map_some, abin, ibin, ishift, sbin, aeq, aeqs, sceq, bindA, keepE, List.map, ptrs, aload, astore, achk, aslice, bnd, amins, amaxs, aidx, aidxa, aidxv, afield, aext, alen, fills, AV.cl, setl, List.set, AH.rd, AH.rdn, blk_alloc, nx_alloc, AV.isUn, List.getElem?_cons_zero, List.getElem?_cons_succ, List.length_cons, List.length_nil, List.drop_zero, List.take_succ_cons, List.take_zero, List.any_cons, List.any_nil, Bool.or_false, Bool.false_eq_true, and_self, if_true, if_false, Int.toNat_zero, Int.reduceToNat, Int.reduceLT, Int.reduceLE, decide_true, decide_false, bne, Bool.not_true, Bool.not_false, beq_self_eq_true, beq_ft, beq_tf, Option.map_none, Int.cast_ofNat_Int, true_and, and_true, Nat.zero_add, Nat.le_refl, Nat.reduceLeDiff, Nat.reduceLT, Nat.reduceSub, Int.reduceAdd, Int.reduceNeg, Int.reduceEq, Int.reduceMul, Int.reduceSub, Nat.reduceEqDiff, Nat.reduceBEq, Nat.add_zero, Nat.reduceDiv, Bool.or_self, reduceIte, Nat.reduceEqDiff, Nat.reduceAdd, Nat.reduceMul]) <;> with_reducible rfl) ?_
      refine (sum_spec t.sum t.step s _ hb7.sli (by simp only [preB, List.length_cons]; omega)).mono ?_
      rintro v h7 ⟨rfl, rfl⟩
      refine WO_fin (by (conv => lhs; simp only [runK, run, guarded, nxt, aop, ev, eget, eput, pureh, Option.map_some, abin, ibin, ishift, sbin, aeq, aeqs, sceq, bindA, keepE, List.map, ptrs, aload, astore, achk, aslice, bnd, amins, amaxs, aidx, aidxa, aidxv, afield, aext, alen, fills, AV.cl, setl, List.set, AH.rd, AH.rdn, blk_alloc, nx_alloc, AV.isUn, List.getElem?_cons_zero, List.getElem?_cons_succ, List.length_cons, List.length_nil, List.drop_zero, List.take_succ_cons, List.take_zero, List.any_cons, List.any_nil, Bool.or_false, Bool.false_eq_true, and_self, if_true, if_false, Int.toNat_zero, Int.reduceToNat, Int.reduceLT, Int.reduceLE, decide_true, decide_false, bne, Bool.not_true, Bool.not_false, beq_self_eq_true, beq_ft, beq_tf, Option.map_none, Int.cast_ofNat_Int, true_and, and_true, Nat.zero_add, Nat.le_refl, Nat.reduceLeDiff, Nat.reduceLT, Nat.reduceSub, Int.reduceAdd, Int.reduceNeg, Int.reduceEq, Int.reduceMul, Int.reduceSub, Nat.reduceEqDiff, Nat.reduceBEq, Nat.add_zero, Nat.reduceDiv, Bool.or_self, reduceIte, Nat.reduceEqDiff, Nat.reduceAdd, Nat.reduceMul]) <;> with_reducible rfl) ?_
      repeat' (first | refine W_seq ?_ | refine W_block ?_)
      refine W_reg ?_
      obtain ⟨v, h8, o8, ha, hb8, hg8⟩ := app_lit (bytes := 1) hb7 (by decide) (by decide) (lit := [.i .u8 (IntKind.u8.wrap ((sumB (preB k a b c) >>> 8).toNat : Int)), .i .u8 (IntKind.u8.wrap ((sumB (preB k a b c)).toNat : Int))]) (n := 2) rfl rfl (by simp [preB, room]; omega)
      refine WO_halt (by (conv => lhs; simp only [runK, run, guarded, nxt, aop, ev, eget, eput, pureh, Option.map_some, abin, sbin, aeq, aeqs, sceq, bindA, keepE, List.map, ptrs, aload, astore, achk, aslice, bnd, amins, amaxs, aidx, aidxa, aidxv, afield, aext, alen, fills, AV.cl, setl, List.set, AH.rd, AH.rdn, blk_alloc, nx_alloc, AV.isUn, List.getElem?_cons_zero, List.getElem?_cons_succ, List.length_cons, List.length_nil, List.drop_zero, List.take_succ_cons, List.take_zero, List.any_cons, List.any_nil, Bool.or_false, Bool.false_eq_true, and_self, if_true, if_false, Int.toNat_zero, Int.reduceToNat, Int.reduceLT, Int.reduceLE, decide_true, decide_false, bne, Bool.not_true, Bool.not_false, beq_self_eq_true, beq_ft, beq_tf, Option.map_none, Int.cast_ofNat_Int, true_and, and_true, Nat.zero_add, Nat.le_refl, Nat.reduceLeDiff, Nat.reduceLT, Nat.reduceSub, Int.reduceAdd, Int.reduceNeg, Int.reduceEq, Int.reduceMul, Int.reduceSub, Nat.reduceEqDiff, Nat.reduceBEq, Nat.add_zero, Nat.reduceDiv, Bool.or_self, reduceIte, Nat.reduceEqDiff, Nat.reduceAdd, Nat.reduceMul, sh16r]) <;> with_reducible rfl) (by exact ha) ?_
      refine WO_fin (by (conv => lhs; simp only [runK, run, guarded, nxt, aop, ev, eget, eput, pureh, Option.map_some, abin, ibin, ishift, sbin, aeq, aeqs, sceq, bindA, keepE, List.map, ptrs, aload, astore, achk, aslice, bnd, amins, amaxs, aidx, aidxa, aidxv, afield, aext, alen, fills, AV.cl, setl, List.set, AH.rd, AH.rdn, blk_alloc, nx_alloc, AV.isUn, List.getElem?_cons_zero, List.getElem?_cons_succ, List.length_cons, List.length_nil, List.drop_zero, List.take_succ_cons, List.take_zero, List.any_cons, List.any_nil, Bool.or_false, Bool.false_eq_true, and_self, if_true, if_false, Int.toNat_zero, Int.reduceToNat, Int.reduceLT, Int.reduceLE, decide_true, decide_false, bne, Bool.not_true, Bool.not_false, beq_self_eq_true, beq_ft, beq_tf, Option.map_none, Int.cast_ofNat_Int, true_and, and_true, Nat.zero_add, Nat.le_refl, Nat.reduceLeDiff, Nat.reduceLT, Nat.reduceSub, Int.reduceAdd, Int.reduceNeg, Int.reduceEq, Int.reduceMul, Int.reduceSub, Nat.reduceEqDiff, Nat.reduceBEq, Nat.add_zero, Nat.reduceDiv, Bool.or_self, reduceIte, Nat.reduceEqDiff, Nat.reduceAdd, Nat.reduceMul]) <;> with_reducible rfl) ?_
      refine W_ret ?_
      refine ⟨by first | exact .inr rfl | exact .inl rfl, _, _, (by (conv => lhs; simp only [aress, ares, runK, run, guarded, nxt, aop, ev, eget, eput, pureh, Option.map_some, abin, ibin, ishift, sbin, aeq, aeqs, sceq, bindA, keepE, List.map, ptrs, aload, astore, achk, aslice, bnd, amins, amaxs, aidx, aidxa, aidxv, afield, aext, alen, fills, AV.cl, setl, List.set, AH.rd, AH.rdn, blk_alloc, nx_alloc, AV.isUn, List.getElem?_cons_zero, List.getElem?_cons_succ, List.length_cons, List.length_nil, List.drop_zero, List.take_succ_cons, List.take_zero, List.any_cons, List.any_nil, Bool.or_false, Bool.false_eq_true, and_self, if_true, if_false, Int.toNat_zero, Int.reduceToNat, Int.reduceLT, Int.reduceLE, decide_true, decide_false, bne, Bool.not_true, Bool.not_false, beq_self_eq_true, beq_ft, beq_tf, Option.map_none, Int.cast_ofNat_Int, true_and, and_true, Nat.zero_add, Nat.le_refl, Nat.reduceLeDiff, Nat.reduceLT, Nat.reduceSub, Int.reduceAdd, Int.reduceNeg, Int.reduceEq, Int.reduceMul, Int.reduceSub, Nat.reduceEqDiff, Nat.reduceBEq, Nat.add_zero, Nat.reduceDiv, Bool.or_self, reduceIte, Nat.reduceEqDiff, Nat.reduceAdd, Nat.reduceMul]) <;> with_reducible rfl), (by (conv => lhs; simp only [tie, List.any_cons, List.any_nil, tp_i, tp_b, tp_s, tp_nils, tp_sl, tp_ptr, tp_nilp, tp_agg, Bool.or_false, Bool.or_self, Bool.false_eq_true, if_false, hb8.ntup]) <;> with_reducible rfl), ?_⟩
      have hgrow : Grow (some h1.next) h4 o8 h8 := (hg5.trans hg6).trans hg8
      have hext : Ext h h8 := (hxx.ext (hx2.ext hx3)).fresh (o := some h1.next) (fun i hi => by cases hi; omega) hgrow
      refine ⟨hext, fun _ => ⟨v, o8, rfl, ?_, ?_⟩, fun hn => (hn hg).elim⟩
      · have e1 : UInt8.ofInt ((sumB (preB k a b c) >>> 8).toNat : Int) = UInt8.ofNat ((sumB (preB k a b c)).toNat / 256) := by
          rw [u8nat, BitVec.toNat_ushiftRight, Nat.shiftRight_eq_div_pow]
        have e2 : UInt8.ofInt ((sumB (preB k a b c)).toNat : Int) = UInt8.ofNat ((sumB (preB k a b c)).toNat % 256) := by
          rw [u8nat]
          apply UInt8.toNat_inj.1
          simp
        rw [wrap8, wrap8, e1, e2] at hb8
        simpa [encB, sealB] using hb8
      · intro i hi
        rcases hgrow.2.2 with e | e | ⟨i', e, hi'⟩ <;> rw [e] at hi <;> cases hi
        · have := hxx.1; omega
        · have := hx3.1; have := hx2.1; have := hxx.1; omega
  · rw [if_neg hg]
    refine W_run (by (conv => lhs; simp only [runK, run, guarded, nxt, aop, ev, eget, eput, pureh, Option.map_some, abin, ibin, ishift, sbin, aeq, aeqs, sceq, bindA, keepE, List.map, ptrs, aload, astore, achk, aslice, bnd, amins, amaxs, aidx, aidxa, aidxv, afield, aext, alen, fills, AV.cl, setl, List.set, AH.rd, AH.rdn, blk_alloc, nx_alloc, AV.isUn, List.getElem?_cons_zero, List.getElem?_cons_succ, List.length_cons, List.length_nil, List.drop_zero, List.take_succ_cons, List.take_zero, List.any_cons, List.any_nil, Bool.or_false, Bool.false_eq_true, and_self, if_true, if_false, Int.toNat_zero, Int.reduceToNat, Int.reduceLT, Int.reduceLE, decide_true, decide_false, bne, Bool.not_true, Bool.not_false, beq_self_eq_true, beq_ft, beq_tf, Option.map_none, Int.cast_ofNat_Int, true_and, and_true, Nat.zero_add, Nat.le_refl, Nat.reduceLeDiff, Nat.reduceLT, Nat.reduceSub, Int.reduceAdd, Int.reduceNeg, Int.reduceEq, Int.reduceMul, Int.reduceSub, Nat.reduceEqDiff, Nat.reduceBEq, Nat.add_zero, Nat.reduceDiv, Bool.or_self, reduceIte, Nat.reduceEqDiff, Nat.reduceAdd, Nat.reduceMul, Int.reduceEq]) <;> with_reducible rfl) ?_
    refine W_true rfl ?_
    refine W_seq ?_
    refine W_run (by (conv => lhs; simp only [runK, run, guarded, nxt, aop, ev, eget, eput, pureh, Option.map_some, abin, ibin, ishift, sbin, aeq, aeqs, sceq, bindA, keepE, List.map, ptrs, aload, astore, achk, aslice, bnd, amins, amaxs, aidx, aidxa, aidxv, afield, aext, alen, fills, AV.cl, setl, List.set, AH.rd, AH.rdn, blk_alloc, nx_alloc, AV.isUn, List.getElem?_cons_zero, List.getElem?_cons_succ, List.length_cons, List.length_nil, List.drop_zero, List.take_succ_cons, List.take_zero, List.any_cons, List.any_nil, Bool.or_false, Bool.false_eq_true, and_self, if_true, if_false, Int.toNat_zero, Int.reduceToNat, Int.reduceLT, Int.reduceLE, decide_true, decide_false, bne, Bool.not_true, Bool.not_false, beq_self_eq_true, beq_ft, beq_tf, Option.map_none, Int.cast_ofNat_Int, true_and, and_true, Nat.zero_add, Nat.le_refl, Nat.reduceLeDiff, Nat.reduceLT, Nat.reduceSub, Int.reduceAdd, Int.reduceNeg, Int.reduceEq, Int.reduceMul, Int.reduceSub, Nat.reduceEqDiff, Nat.reduceBEq, Nat.add_zero, Nat.reduceDiv, Bool.or_self, reduceIte, Nat.reduceEqDiff, Nat.reduceAdd, Nat.reduceMul]) <;> with_reducible rfl) ?_
    refine W_ret ?_
    refine ⟨by first | exact .inr rfl | exact .inl rfl, _, _, (by (conv => lhs; simp only [aress, ares, runK, run, guarded, nxt, aop, ev, eget, eput, pureh, Option.map_some, abin, ibin, ishift, sbin, aeq, aeqs, sceq, bindA, keepE, List.map, ptrs, aload, astore, achk, aslice, bnd, amins, amaxs, aidx, aidxa, aidxv, afield, aext, alen, fills, AV.cl, setl, List.set, AH.rd, AH.rdn, blk_alloc, nx_alloc, AV.isUn, List.getElem?_cons_zero, List.getElem?_cons_succ, List.length_cons, List.length_nil, List.drop_zero, List.take_succ_cons, List.take_zero, List.any_cons, List.any_nil, Bool.or_false, Bool.false_eq_true, and_self, if_true, if_false, Int.toNat_zero, Int.reduceToNat, Int.reduceLT, Int.reduceLE, decide_true, decide_false, bne, Bool.not_true, Bool.not_false, beq_self_eq_true, beq_ft, beq_tf, Option.map_none, Int.cast_ofNat_Int, true_and, and_true, Nat.zero_add, Nat.le_refl, Nat.reduceLeDiff, Nat.reduceLT, Nat.reduceSub, Int.reduceAdd, Int.reduceNeg, Int.reduceEq, Int.reduceMul, Int.reduceSub, Nat.reduceEqDiff, Nat.reduceBEq, Nat.add_zero, Nat.reduceDiv, Bool.or_self, reduceIte, Nat.reduceEqDiff, Nat.reduceAdd, Nat.reduceMul]) <;> with_reducible rfl), rfl, ?_⟩
    exact ⟨hxx, fun h => (hg h).elim, fun _ => rfl⟩
end Go.Proofs.Ytdcknhimmdmgoaa.Ab
