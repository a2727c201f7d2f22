/- Chapter 16: serving and adding. -/
import Derived.Test.YthnoccmngpoibaaY16c
namespace Go.Proofs.Ythnoccmngpoibaa.Ab
open Go
set_option linter.unusedVariables false
set_option linter.unusedSimpArgs false
variable {T : AT}
def fid : Option Ent → Int
  | some f => f.id
  | none => 0
def Bk.serve (b : Bk) (x : Int) : Bk × Int :=
  match findX Ent.id x b.all 0 with
  | some (i, e) => if e.s = 1 then if fid (b.first e.st) = x then (⟨b.all.set i ⟨e.id, e.st, e.to, 2⟩, b.done ++ [x]⟩, 0) else (b, 110) else (b, 140)
  | none => (b, 4)
theorem serve_spec (c : TabC16 T) (b : Bk) (hk : b.Ok) (x : Int) : Ret2 T 1 i_book_Book_Serve [.ptr 0 0, .i .i64 x] b.h (fun v h' => v = .i .i64 (b.serve x).2 ∧ h' = (b.serve x).1.h) := by
  refine Ret2_fnv c.serve rfl rfl ?_
  unfold Bk.h
  cases hf : findX Ent.id x b.all 0 with
  | none =>
    simp only [Bk.serve, hf]
    (repeat' with_reducible first | refine thn2_nrm ?_ | refine thn2_ret ?_ | refine thn2_ex ?_ | refine blk2_nrm ?_ | refine blk2_ret ?_ | refine blk2_at ?_ | (refine blk2_ex ?_ ?_; decide) | refine W2_sas ?_ | refine W2_ss ?_ | refine W2_sret ?_ | refine W2_sexit ?_ | ((first | apply W2_sra | apply W2_srda | apply W2_runa | apply W2_runda); (conv => lhs; simp only [go_sem, ibin, ishift, hf]) <;> rfl) | ((first | apply W2_srS | apply W2_runS); decide +kernel; (conv => lhs; simp only [go_sem, ibin, ishift, hf]) <;> rfl) | ((first | apply W2_sct | apply W2_t2); (conv => lhs; simp only [go_sem]) <;> rfl; rfl) | ((first | apply W2_scf | apply W2_f2); (conv => lhs; simp only [go_sem]) <;> rfl; rfl) | refine W2_ret ?_ | refine W2_exit ?_ | refine W2_skip ?_ | refine W2_seq ?_ | refine W2_block ?_)
    refine ⟨by first | exact .inr rfl | exact .inl rfl, _, _, (by (conv => lhs; simp only [go_sem, ibin, ishift]) <;> with_reducible rfl), (by (conv => lhs; simp only [go_sem, ibin, ishift]) <;> with_reducible rfl), ?_⟩
    refine ⟨[0, 1, 2, 3], by decide, rfl, ?_⟩
    exact ⟨rfl, (by first | rfl | (simp only [go_sem, Bk.h]; done) | (simp only [go_sem, Bk.h] <;> rfl))⟩
  | some p =>
    obtain ⟨i, e⟩ := p
    obtain ⟨_, hx, hi⟩ := findX_mem hf
    simp only [Bk.serve, hf]
    by_cases h1 : e.s = 1
    · have d1 : decide (e.s = 1) = true := decide_eq_true h1
      simp only [h1, if_true]
      (repeat' with_reducible first | refine thn2_nrm ?_ | refine thn2_ret ?_ | refine thn2_ex ?_ | refine blk2_nrm ?_ | refine blk2_ret ?_ | refine blk2_at ?_ | (refine blk2_ex ?_ ?_; decide) | refine W2_sas ?_ | refine W2_ss ?_ | refine W2_sret ?_ | refine W2_sexit ?_ | ((first | apply W2_sra | apply W2_srda | apply W2_runa | apply W2_runda); (conv => lhs; simp only [go_sem, ibin, ishift, hf, cE, d1, h1]) <;> rfl) | ((first | apply W2_srS | apply W2_runS); decide +kernel; (conv => lhs; simp only [go_sem, ibin, ishift, hf, cE, d1, h1]) <;> rfl) | ((first | apply W2_sct | apply W2_t2); (conv => lhs; simp only [go_sem]) <;> rfl; rfl) | ((first | apply W2_scf | apply W2_f2); (conv => lhs; simp only [go_sem]) <;> rfl; rfl) | refine W2_ret ?_ | refine W2_exit ?_ | refine W2_skip ?_ | refine W2_seq ?_ | refine W2_block ?_)
      (first | (((with_reducible first | apply W2_scall | apply W2_scalld | apply W2_calla | apply W2_callda | apply run2a_sound); ((conv => lhs; simp only [go_sem, ibin, ishift, hf, cE, d1, h1]) <;> with_reducible rfl))) | ((with_reducible first | apply W2_scallS | apply W2_callS); decide +kernel; ((conv => lhs; simp only [go_sem, ibin, ishift, hf, cE, d1, h1]) <;> with_reducible rfl)))
      refine CK_call [0, 1, 2, 3] (first_spec c.toTabB16 b hk e.st) (by decide) (by simp [Bk.h]) rfl rfl (by first | rfl | (simp only [go_sem, Bk.h]; done) | (simp only [go_sem, Bk.h] <;> rfl)) ?_
      rintro v h' ⟨rfl, rfl⟩
      unfold Bk.h
      have hfid : ∃ a2 a3, rO (b.first e.st) = [.i .i64 (fid (b.first e.st)), a2, a3] := by
        cases b.first e.st with
        | none => exact ⟨_, _, rfl⟩
        | some f => exact ⟨_, _, rfl⟩
      obtain ⟨a2, a3, hro⟩ := hfid
      unfold fO
      rw [hro]
      ((with_reducible first | apply WO2_finw | apply WO2_fina); ((conv => lhs; simp only [go_sem, ibin, ishift]) <;> with_reducible rfl))
      (repeat' with_reducible first | refine thn2_nrm ?_ | refine thn2_ret ?_ | refine thn2_ex ?_ | refine blk2_nrm ?_ | refine blk2_ret ?_ | refine blk2_at ?_ | (refine blk2_ex ?_ ?_; decide) | refine W2_sas ?_ | refine W2_ss ?_ | refine W2_sret ?_ | refine W2_sexit ?_ | ((first | apply W2_sra | apply W2_srda | apply W2_runa | apply W2_runda); (conv => lhs; simp only [go_sem, ibin, ishift]) <;> rfl) | ((first | apply W2_srS | apply W2_runS); decide +kernel; (conv => lhs; simp only [go_sem, ibin, ishift]) <;> rfl) | ((first | apply W2_sct | apply W2_t2); (conv => lhs; simp only [go_sem]) <;> rfl; rfl) | ((first | apply W2_scf | apply W2_f2); (conv => lhs; simp only [go_sem]) <;> rfl; rfl) | refine W2_ret ?_ | refine W2_exit ?_ | refine W2_skip ?_ | refine W2_seq ?_ | refine W2_block ?_)
      by_cases h2 : fid (b.first e.st) = x
      · have d2 : decide (fid (b.first e.st) = x) = true := decide_eq_true h2
        have hdl := hk.dl
        have hroom : (b.done.length + 1) * 8 ≤ room := by simp only [room]; omega
        have hset : (b.set i e 2).done = b.done := rfl
        have htk : b.done.take b.done.length = b.done := List.take_length
        simp only [h2, if_true]
        (repeat' with_reducible first | refine thn2_nrm ?_ | refine thn2_ret ?_ | refine thn2_ex ?_ | refine blk2_nrm ?_ | refine blk2_ret ?_ | refine blk2_at ?_ | (refine blk2_ex ?_ ?_; decide) | refine W2_sas ?_ | refine W2_ss ?_ | refine W2_sret ?_ | refine W2_sexit ?_ | ((first | apply W2_sra | apply W2_srda | apply W2_runa | apply W2_runda); (conv => lhs; simp only [go_sem, ibin, ishift]) <;> rfl) | ((first | apply W2_srS | apply W2_runS); decide +kernel; (conv => lhs; simp only [go_sem, ibin, ishift]) <;> rfl) | ((first | apply W2_sct | apply W2_t2); (conv => lhs; simp only [go_sem]) <;> rfl; rfl) | ((first | apply W2_scf | apply W2_f2); (conv => lhs; simp only [go_sem]) <;> rfl; rfl) | refine W2_ret ?_ | refine W2_exit ?_ | refine W2_skip ?_ | refine W2_seq ?_ | refine W2_block ?_)
        (first | (((with_reducible first | apply W2_scall | apply W2_scalld | apply W2_calla | apply W2_callda | apply run2a_sound); ((conv => lhs; simp only [go_sem, ibin, ishift]) <;> with_reducible rfl))) | ((with_reducible first | apply W2_scallS | apply W2_callS); decide +kernel; ((conv => lhs; simp only [go_sem, ibin, ishift]) <;> with_reducible rfl)))
        refine CK_call [0, 1, 2, 3] (end_spec c b hk hf h1 (show (2 : Int) ≠ 1 by decide)) (by decide) (by simp [Bk.h]) rfl rfl (by first | rfl | (simp only [go_sem, Bk.h]; done) | (simp only [go_sem, Bk.h] <;> rfl)) ?_
        rintro v h' ⟨rfl, rfl⟩
        unfold Bk.h
        ((with_reducible first | apply WO2_finw | apply WO2_fina); ((conv => lhs; simp only [go_sem, ibin, ishift]) <;> with_reducible rfl))
        (repeat' with_reducible first | refine thn2_nrm ?_ | refine thn2_ret ?_ | refine thn2_ex ?_ | refine blk2_nrm ?_ | refine blk2_ret ?_ | refine blk2_at ?_ | (refine blk2_ex ?_ ?_; decide) | refine W2_sas ?_ | refine W2_ss ?_ | refine W2_sret ?_ | refine W2_sexit ?_ | ((first | apply W2_sra | apply W2_srda | apply W2_runa | apply W2_runda); (conv => lhs; simp only [go_sem, ibin, ishift, hroom, hset, htk, Nat.le_refl]) <;> rfl) | ((first | apply W2_srS | apply W2_runS); decide +kernel; (conv => lhs; simp only [go_sem, ibin, ishift, hroom, hset, htk, Nat.le_refl]) <;> rfl) | ((first | apply W2_sct | apply W2_t2); (conv => lhs; simp only [go_sem]) <;> rfl; rfl) | ((first | apply W2_scf | apply W2_f2); (conv => lhs; simp only [go_sem]) <;> rfl; rfl) | refine W2_ret ?_ | refine W2_exit ?_ | refine W2_skip ?_ | refine W2_seq ?_ | refine W2_block ?_)
        refine ⟨by first | exact .inr rfl | exact .inl rfl, _, _, (by (conv => lhs; simp only [go_sem, ibin, ishift]) <;> with_reducible rfl), (by (conv => lhs; simp only [go_sem, ibin, ishift]) <;> with_reducible rfl), ?_⟩
        refine ⟨[0, 1, 2, 7], by decide, rfl, ?_⟩
        exact ⟨rfl, (by first | rfl | (simp only [go_sem, Bk.set, Bk.opE, List.map_append, List.length_append]; done) | (simp only [go_sem, Bk.set, Bk.opE, List.map_append, List.length_append] <;> rfl))⟩
      · have d2 : decide (fid (b.first e.st) = x) = false := decide_eq_false h2
        simp only [h2, if_false]
        (repeat' with_reducible first | refine thn2_nrm ?_ | refine thn2_ret ?_ | refine thn2_ex ?_ | refine blk2_nrm ?_ | refine blk2_ret ?_ | refine blk2_at ?_ | (refine blk2_ex ?_ ?_; decide) | refine W2_sas ?_ | refine W2_ss ?_ | refine W2_sret ?_ | refine W2_sexit ?_ | ((first | apply W2_sra | apply W2_srda | apply W2_runa | apply W2_runda); (conv => lhs; simp only [go_sem, ibin, ishift, d2]) <;> rfl) | ((first | apply W2_srS | apply W2_runS); decide +kernel; (conv => lhs; simp only [go_sem, ibin, ishift, d2]) <;> rfl) | ((first | apply W2_sct | apply W2_t2); (conv => lhs; simp only [go_sem]) <;> rfl; rfl) | ((first | apply W2_scf | apply W2_f2); (conv => lhs; simp only [go_sem]) <;> rfl; rfl) | refine W2_ret ?_ | refine W2_exit ?_ | refine W2_skip ?_ | refine W2_seq ?_ | refine W2_block ?_)
        refine ⟨by first | exact .inr rfl | exact .inl rfl, _, _, (by (conv => lhs; simp only [go_sem, ibin, ishift]) <;> with_reducible rfl), (by (conv => lhs; simp only [go_sem, ibin, ishift]) <;> with_reducible rfl), ?_⟩
        refine ⟨[0, 1, 2, 3], by decide, rfl, ?_⟩
        exact ⟨rfl, (by first | rfl | (simp only [go_sem, Bk.h]; done) | (simp only [go_sem, Bk.h] <;> rfl))⟩
    · have d1 : decide (e.s = 1) = false := decide_eq_false h1
      simp only [h1, if_false]
      (repeat' with_reducible first | refine thn2_nrm ?_ | refine thn2_ret ?_ | refine thn2_ex ?_ | refine blk2_nrm ?_ | refine blk2_ret ?_ | refine blk2_at ?_ | (refine blk2_ex ?_ ?_; decide) | refine W2_sas ?_ | refine W2_ss ?_ | refine W2_sret ?_ | refine W2_sexit ?_ | ((first | apply W2_sra | apply W2_srda | apply W2_runa | apply W2_runda); (conv => lhs; simp only [go_sem, ibin, ishift, hf, cE, d1]) <;> rfl) | ((first | apply W2_srS | apply W2_runS); decide +kernel; (conv => lhs; simp only [go_sem, ibin, ishift, hf, cE, d1]) <;> rfl) | ((first | apply W2_sct | apply W2_t2); (conv => lhs; simp only [go_sem]) <;> rfl; rfl) | ((first | apply W2_scf | apply W2_f2); (conv => lhs; simp only [go_sem]) <;> rfl; rfl) | refine W2_ret ?_ | refine W2_exit ?_ | refine W2_skip ?_ | refine W2_seq ?_ | refine W2_block ?_)
      refine ⟨by first | exact .inr rfl | exact .inl rfl, _, _, (by (conv => lhs; simp only [go_sem, ibin, ishift]) <;> with_reducible rfl), (by (conv => lhs; simp only [go_sem, ibin, ishift]) <;> with_reducible rfl), ?_⟩
      refine ⟨[0, 1, 2, 3], by decide, rfl, ?_⟩
      exact ⟨rfl, (by first | rfl | (simp only [go_sem, Bk.h]; done) | (simp only [go_sem, Bk.h] <;> rfl))⟩
theorem Bk.serve_ok {b : Bk} (hk : b.Ok) (hd : b.done.length < 1000000) (x : Int) : (b.serve x).1.Ok := by
  unfold Bk.serve
  cases hf : findX Ent.id x b.all 0 with
  | none => exact hk
  | some p =>
    obtain ⟨i, e⟩ := p
    obtain ⟨hm, hx, hi⟩ := findX_mem hf
    simp only
    split
    · split
      · have h := Bk.set_ok (s := 2) hk hi (by decide)
        refine ⟨h.nd, fun y hy => ?_, h.len, by simp only [List.length_append, List.length_cons, List.length_nil]; omega, h.sr⟩
        rcases List.mem_append.1 hy with hy | hy
        · exact h.dk y hy
        · rw [List.mem_singleton.1 hy]
          refine ⟨_, List.mem_iff_getElem?.2 ⟨i, List.getElem?_set_self (List.getElem?_eq_some_iff.1 hi).1⟩, hx⟩
      · exact hk
    · exact hk
def Bk.addE (b : Bk) (id st to : Int) : Bk := ⟨b.all ++ [⟨id, st, to, 1⟩], b.done⟩
def Bk.add (b : Bk) (id st to : Int) : Bk × Bool × Int :=
  if st < 0 ∨ st ≥ 40 ∨ to < 1 ∨ to > 30 then (b, false, 1)
  else match findX Ent.id id b.all 0 with
    | some (_, e) => if e.st = st ∧ e.to = to then (b, false, 0) else (b, false, 2)
    | none => if (b.wanted to).isSome then (b, false, 160) else if b.opE.length ≥ 64 then (b, false, 5) else (b.addE id st to, true, 0)
theorem add_spec (c : TabC16 T) (b : Bk) (hk : b.Ok) (id st to : Int) : Ret2 T 1 i_book_Book_Add [.ptr 0 0, .agg [.i .i64 id, .i .i64 st, .i .i64 to]] b.h (fun v h' => v = .tup [.b (b.add id st to).2.1, .i .i64 (b.add id st to).2.2] ∧ h' = (b.add id st to).1.h) := by
  refine Ret2_fnv c.add rfl rfl ?_
  unfold Bk.h
  (repeat' with_reducible first | refine thn2_nrm ?_ | refine thn2_ret ?_ | refine thn2_ex ?_ | refine blk2_nrm ?_ | refine blk2_ret ?_ | refine blk2_at ?_ | (refine blk2_ex ?_ ?_; decide) | refine W2_sas ?_ | refine W2_ss ?_ | refine W2_sret ?_ | refine W2_sexit ?_ | ((first | apply W2_sra | apply W2_srda | apply W2_runa | apply W2_runda); (conv => lhs; simp only [go_sem, ibin, ishift]) <;> rfl) | ((first | apply W2_srS | apply W2_runS); decide +kernel; (conv => lhs; simp only [go_sem, ibin, ishift]) <;> rfl) | ((first | apply W2_sct | apply W2_t2); (conv => lhs; simp only [go_sem]) <;> rfl; rfl) | ((first | apply W2_scf | apply W2_f2); (conv => lhs; simp only [go_sem]) <;> rfl; rfl) | refine W2_ret ?_ | refine W2_exit ?_ | refine W2_skip ?_ | refine W2_seq ?_ | refine W2_block ?_)
  (((first | with_reducible apply W2_sc | with_reducible apply W2_cond); ((conv => lhs; simp only [go_sem]) <;> with_reducible rfl)) <;> intro hx <;> (try rw [hx]) <;> simp only [Bool.or_eq_true, Bool.and_eq_true, decide_eq_true_eq, Bool.or_eq_false_iff, Bool.and_eq_false_iff, decide_eq_false_iff_not, Bool.not_eq_true', Bool.not_eq_false', bne_iff_ne, beq_iff_eq, not_or, not_and, Decidable.not_not, ne_eq, gt_iff_lt, ge_iff_le, Int.not_lt, Int.not_le] at hx)
  · have hn : st < 0 ∨ st ≥ 40 ∨ to < 1 ∨ to > 30 := by omega
    simp only [Bk.add, hn, if_true]
    (repeat' with_reducible first | refine thn2_nrm ?_ | refine thn2_ret ?_ | refine thn2_ex ?_ | refine blk2_nrm ?_ | refine blk2_ret ?_ | refine blk2_at ?_ | (refine blk2_ex ?_ ?_; decide) | refine W2_sas ?_ | refine W2_ss ?_ | refine W2_sret ?_ | refine W2_sexit ?_ | ((first | apply W2_sra | apply W2_srda | apply W2_runa | apply W2_runda); (conv => lhs; simp only [go_sem, ibin, ishift]) <;> rfl) | ((first | apply W2_srS | apply W2_runS); decide +kernel; (conv => lhs; simp only [go_sem, ibin, ishift]) <;> rfl) | ((first | apply W2_sct | apply W2_t2); (conv => lhs; simp only [go_sem]) <;> rfl; rfl) | ((first | apply W2_scf | apply W2_f2); (conv => lhs; simp only [go_sem]) <;> rfl; rfl) | refine W2_ret ?_ | refine W2_exit ?_ | refine W2_skip ?_ | refine W2_seq ?_ | refine W2_block ?_)
    refine ⟨by first | exact .inr rfl | exact .inl rfl, _, _, (by (conv => lhs; simp only [go_sem, ibin, ishift]) <;> with_reducible rfl), (by (conv => lhs; simp only [go_sem, ibin, ishift]) <;> with_reducible rfl), ?_⟩
    refine ⟨[0, 1, 2, 3], by decide, rfl, ?_⟩
    exact ⟨rfl, (by first | rfl | (simp only [go_sem, Bk.h]; done) | (simp only [go_sem, Bk.h] <;> rfl))⟩
  · have hn : ¬(st < 0 ∨ st ≥ 40 ∨ to < 1 ∨ to > 30) := by omega
    simp only [Bk.add, hn, if_false]
    cases hf : findX Ent.id id b.all 0 with
    | some p =>
      obtain ⟨i, e⟩ := p
      obtain ⟨_, hx, hi⟩ := findX_mem hf
      have hid : decide (e.id = id) = true := decide_eq_true hx
      (repeat' with_reducible first | refine thn2_nrm ?_ | refine thn2_ret ?_ | refine thn2_ex ?_ | refine blk2_nrm ?_ | refine blk2_ret ?_ | refine blk2_at ?_ | (refine blk2_ex ?_ ?_; decide) | refine W2_sas ?_ | refine W2_ss ?_ | refine W2_sret ?_ | refine W2_sexit ?_ | ((first | apply W2_sra | apply W2_srda | apply W2_runa | apply W2_runda); (conv => lhs; simp only [go_sem, ibin, ishift, hf, cE, hid]) <;> rfl) | ((first | apply W2_srS | apply W2_runS); decide +kernel; (conv => lhs; simp only [go_sem, ibin, ishift, hf, cE, hid]) <;> rfl) | ((first | apply W2_sct | apply W2_t2); (conv => lhs; simp only [go_sem]) <;> rfl; rfl) | ((first | apply W2_scf | apply W2_f2); (conv => lhs; simp only [go_sem]) <;> rfl; rfl) | refine W2_ret ?_ | refine W2_exit ?_ | refine W2_skip ?_ | refine W2_seq ?_ | refine W2_block ?_)
      by_cases h2 : e.st = st ∧ e.to = to
      · have d1 : decide (e.st = st) = true := decide_eq_true h2.1
        have d2 : decide (e.to = to) = true := decide_eq_true h2.2
        simp only [h2, and_self, if_true]
        (repeat' with_reducible first | refine thn2_nrm ?_ | refine thn2_ret ?_ | refine thn2_ex ?_ | refine blk2_nrm ?_ | refine blk2_ret ?_ | refine blk2_at ?_ | (refine blk2_ex ?_ ?_; decide) | refine W2_sas ?_ | refine W2_ss ?_ | refine W2_sret ?_ | refine W2_sexit ?_ | ((first | apply W2_sra | apply W2_srda | apply W2_runa | apply W2_runda); (conv => lhs; simp only [go_sem, ibin, ishift, d1, d2]) <;> rfl) | ((first | apply W2_srS | apply W2_runS); decide +kernel; (conv => lhs; simp only [go_sem, ibin, ishift, d1, d2]) <;> rfl) | ((first | apply W2_sct | apply W2_t2); (conv => lhs; simp only [go_sem]) <;> rfl; rfl) | ((first | apply W2_scf | apply W2_f2); (conv => lhs; simp only [go_sem]) <;> rfl; rfl) | refine W2_ret ?_ | refine W2_exit ?_ | refine W2_skip ?_ | refine W2_seq ?_ | refine W2_block ?_)
        refine ⟨by first | exact .inr rfl | exact .inl rfl, _, _, (by (conv => lhs; simp only [go_sem, ibin, ishift]) <;> with_reducible rfl), (by (conv => lhs; simp only [go_sem, ibin, ishift]) <;> with_reducible rfl), ?_⟩
        refine ⟨[0, 1, 2, 3], by decide, rfl, ?_⟩
        exact ⟨rfl, (by first | rfl | (simp only [go_sem, Bk.h]; done) | (simp only [go_sem, Bk.h] <;> rfl))⟩
      · have d1 : (decide (e.st = st) && decide (e.to = to)) = false := by rw [← Bool.decide_and]; exact decide_eq_false h2
        simp only [h2, if_false]
        rw [d1]
        (repeat' with_reducible first | refine thn2_nrm ?_ | refine thn2_ret ?_ | refine thn2_ex ?_ | refine blk2_nrm ?_ | refine blk2_ret ?_ | refine blk2_at ?_ | (refine blk2_ex ?_ ?_; decide) | refine W2_sas ?_ | refine W2_ss ?_ | refine W2_sret ?_ | refine W2_sexit ?_ | ((first | apply W2_sra | apply W2_srda | apply W2_runa | apply W2_runda); (conv => lhs; simp only [go_sem, ibin, ishift, d1]) <;> rfl) | ((first | apply W2_srS | apply W2_runS); decide +kernel; (conv => lhs; simp only [go_sem, ibin, ishift, d1]) <;> rfl) | ((first | apply W2_sct | apply W2_t2); (conv => lhs; simp only [go_sem]) <;> rfl; rfl) | ((first | apply W2_scf | apply W2_f2); (conv => lhs; simp only [go_sem]) <;> rfl; rfl) | refine W2_ret ?_ | refine W2_exit ?_ | refine W2_skip ?_ | refine W2_seq ?_ | refine W2_block ?_)
        refine ⟨by first | exact .inr rfl | exact .inl rfl, _, _, (by (conv => lhs; simp only [go_sem, ibin, ishift]) <;> with_reducible rfl), (by (conv => lhs; simp only [go_sem, ibin, ishift]) <;> with_reducible rfl), ?_⟩
        refine ⟨[0, 1, 2, 3], by decide, rfl, ?_⟩
        exact ⟨rfl, (by first | rfl | (simp only [go_sem, Bk.h]; done) | (simp only [go_sem, Bk.h] <;> rfl))⟩
    | none =>
      (repeat' with_reducible first | refine thn2_nrm ?_ | refine thn2_ret ?_ | refine thn2_ex ?_ | refine blk2_nrm ?_ | refine blk2_ret ?_ | refine blk2_at ?_ | (refine blk2_ex ?_ ?_; decide) | refine W2_sas ?_ | refine W2_ss ?_ | refine W2_sret ?_ | refine W2_sexit ?_ | ((first | apply W2_sra | apply W2_srda | apply W2_runa | apply W2_runda); (conv => lhs; simp only [go_sem, ibin, ishift, hf]) <;> rfl) | ((first | apply W2_srS | apply W2_runS); decide +kernel; (conv => lhs; simp only [go_sem, ibin, ishift, hf]) <;> rfl) | ((first | apply W2_sct | apply W2_t2); (conv => lhs; simp only [go_sem]) <;> rfl; rfl) | ((first | apply W2_scf | apply W2_f2); (conv => lhs; simp only [go_sem]) <;> rfl; rfl) | refine W2_ret ?_ | refine W2_exit ?_ | refine W2_skip ?_ | refine W2_seq ?_ | refine W2_block ?_)
      (first | (((with_reducible first | apply W2_scall | apply W2_scalld | apply W2_calla | apply W2_callda | apply run2a_sound); ((conv => lhs; simp only [go_sem, ibin, ishift]) <;> with_reducible rfl))) | ((with_reducible first | apply W2_scallS | apply W2_callS); decide +kernel; ((conv => lhs; simp only [go_sem, ibin, ishift]) <;> with_reducible rfl)))
      refine CK_call [0, 1, 2, 3] (wanted_spec c.toTabB16 b hk to) (by decide) (by simp [Bk.h]) rfl rfl (by first | rfl | (simp only [go_sem, Bk.h]; done) | (simp only [go_sem, Bk.h] <;> rfl)) ?_
      rintro v h' ⟨rfl, rfl⟩
      unfold Bk.h
      cases hw : b.wanted to with
      | some f =>
        unfold fO rO Ent.r
        simp only [Option.isSome_some, if_true]
        ((with_reducible first | apply WO2_finw | apply WO2_fina); ((conv => lhs; simp only [go_sem, ibin, ishift]) <;> with_reducible rfl))
        (repeat' with_reducible first | refine thn2_nrm ?_ | refine thn2_ret ?_ | refine thn2_ex ?_ | refine blk2_nrm ?_ | refine blk2_ret ?_ | refine blk2_at ?_ | (refine blk2_ex ?_ ?_; decide) | refine W2_sas ?_ | refine W2_ss ?_ | refine W2_sret ?_ | refine W2_sexit ?_ | ((first | apply W2_sra | apply W2_srda | apply W2_runa | apply W2_runda); (conv => lhs; simp only [go_sem, ibin, ishift]) <;> rfl) | ((first | apply W2_srS | apply W2_runS); decide +kernel; (conv => lhs; simp only [go_sem, ibin, ishift]) <;> rfl) | ((first | apply W2_sct | apply W2_t2); (conv => lhs; simp only [go_sem]) <;> rfl; rfl) | ((first | apply W2_scf | apply W2_f2); (conv => lhs; simp only [go_sem]) <;> rfl; rfl) | refine W2_ret ?_ | refine W2_exit ?_ | refine W2_skip ?_ | refine W2_seq ?_ | refine W2_block ?_)
        refine ⟨by first | exact .inr rfl | exact .inl rfl, _, _, (by (conv => lhs; simp only [go_sem, ibin, ishift]) <;> with_reducible rfl), (by (conv => lhs; simp only [go_sem, ibin, ishift]) <;> with_reducible rfl), ?_⟩
        refine ⟨[0, 1, 2, 3], by decide, rfl, ?_⟩
        exact ⟨rfl, (by first | rfl | (simp only [go_sem, Bk.h]; done) | (simp only [go_sem, Bk.h] <;> rfl))⟩
      | none =>
        unfold fO rO
        simp only [Option.isSome_none, Bool.false_eq_true, if_false]
        ((with_reducible first | apply WO2_finw | apply WO2_fina); ((conv => lhs; simp only [go_sem, ibin, ishift]) <;> with_reducible rfl))
        (repeat' with_reducible first | refine thn2_nrm ?_ | refine thn2_ret ?_ | refine thn2_ex ?_ | refine blk2_nrm ?_ | refine blk2_ret ?_ | refine blk2_at ?_ | (refine blk2_ex ?_ ?_; decide) | refine W2_sas ?_ | refine W2_ss ?_ | refine W2_sret ?_ | refine W2_sexit ?_ | ((first | apply W2_sra | apply W2_srda | apply W2_runa | apply W2_runda); (conv => lhs; simp only [go_sem, ibin, ishift]) <;> rfl) | ((first | apply W2_srS | apply W2_runS); decide +kernel; (conv => lhs; simp only [go_sem, ibin, ishift]) <;> rfl) | ((first | apply W2_sct | apply W2_t2); (conv => lhs; simp only [go_sem]) <;> rfl; rfl) | ((first | apply W2_scf | apply W2_f2); (conv => lhs; simp only [go_sem]) <;> rfl; rfl) | refine W2_ret ?_ | refine W2_exit ?_ | refine W2_skip ?_ | refine W2_seq ?_ | refine W2_block ?_)
        (((first | with_reducible apply W2_sc | with_reducible apply W2_cond); ((conv => lhs; simp only [go_sem]) <;> with_reducible rfl)) <;> intro hx <;> (try rw [hx]) <;> simp only [Bool.or_eq_true, Bool.and_eq_true, decide_eq_true_eq, Bool.or_eq_false_iff, Bool.and_eq_false_iff, decide_eq_false_iff_not, Bool.not_eq_true', Bool.not_eq_false', bne_iff_ne, beq_iff_eq, not_or, not_and, Decidable.not_not, ne_eq, gt_iff_lt, ge_iff_le, Int.not_lt, Int.not_le] at hx)
        · have h3 : b.opE.length ≥ 64 := by omega
          simp only [h3, if_true]
          (repeat' with_reducible first | refine thn2_nrm ?_ | refine thn2_ret ?_ | refine thn2_ex ?_ | refine blk2_nrm ?_ | refine blk2_ret ?_ | refine blk2_at ?_ | (refine blk2_ex ?_ ?_; decide) | refine W2_sas ?_ | refine W2_ss ?_ | refine W2_sret ?_ | refine W2_sexit ?_ | ((first | apply W2_sra | apply W2_srda | apply W2_runa | apply W2_runda); (conv => lhs; simp only [go_sem, ibin, ishift]) <;> rfl) | ((first | apply W2_srS | apply W2_runS); decide +kernel; (conv => lhs; simp only [go_sem, ibin, ishift]) <;> rfl) | ((first | apply W2_sct | apply W2_t2); (conv => lhs; simp only [go_sem]) <;> rfl; rfl) | ((first | apply W2_scf | apply W2_f2); (conv => lhs; simp only [go_sem]) <;> rfl; rfl) | refine W2_ret ?_ | refine W2_exit ?_ | refine W2_skip ?_ | refine W2_seq ?_ | refine W2_block ?_)
          refine ⟨by first | exact .inr rfl | exact .inl rfl, _, _, (by (conv => lhs; simp only [go_sem, ibin, ishift]) <;> with_reducible rfl), (by (conv => lhs; simp only [go_sem, ibin, ishift]) <;> with_reducible rfl), ?_⟩
          refine ⟨[0, 1, 2, 3], by decide, rfl, ?_⟩
          exact ⟨rfl, (by first | rfl | (simp only [go_sem, Bk.h]; done) | (simp only [go_sem, Bk.h] <;> rfl))⟩
        · have h3 : ¬b.opE.length ≥ 64 := by omega
          have hroom : (b.opE.length + 1) * 8 ≤ room := by simp only [room]; omega
          have happ : List.map (mA Ent.id cE) b.all ++ [(SV.p (PV.i IntKind.i64 id), SV.agg [SV.p (PV.i IntKind.i64 id), SV.p (PV.i IntKind.i64 st), SV.p (PV.i IntKind.i64 to), SV.p (PV.i IntKind.i64 1)])] = List.map (mA Ent.id cE) (b.addE id st to).all := by
            rw [Bk.addE, List.map_append]; rfl
          have hop : (b.addE id st to).opE = b.opE ++ [⟨id, st, to, 1⟩] := by
            rw [Bk.addE, Bk.opE, List.filter_append]; rfl
          have htk : (b.opE.map Ent.id).take b.opE.length = b.opE.map Ent.id := List.take_of_length_le (by simp)
          simp only [h3, if_false]
          (repeat' with_reducible first | refine thn2_nrm ?_ | refine thn2_ret ?_ | refine thn2_ex ?_ | refine blk2_nrm ?_ | refine blk2_ret ?_ | refine blk2_at ?_ | (refine blk2_ex ?_ ?_; decide) | refine W2_sas ?_ | refine W2_ss ?_ | refine W2_sret ?_ | refine W2_sexit ?_ | ((first | apply W2_sra | apply W2_srda | apply W2_runa | apply W2_runda); (conv => lhs; simp only [go_sem, ibin, ishift, hf, happ, hroom, htk, Nat.le_refl]) <;> rfl) | ((first | apply W2_srS | apply W2_runS); decide +kernel; (conv => lhs; simp only [go_sem, ibin, ishift, hf, happ, hroom, htk, Nat.le_refl]) <;> rfl) | ((first | apply W2_sct | apply W2_t2); (conv => lhs; simp only [go_sem]) <;> rfl; rfl) | ((first | apply W2_scf | apply W2_f2); (conv => lhs; simp only [go_sem]) <;> rfl; rfl) | refine W2_ret ?_ | refine W2_exit ?_ | refine W2_skip ?_ | refine W2_seq ?_ | refine W2_block ?_)
          refine ⟨by first | exact .inr rfl | exact .inl rfl, _, _, (by (conv => lhs; simp only [go_sem, ibin, ishift]) <;> with_reducible rfl), (by (conv => lhs; simp only [go_sem, ibin, ishift]) <;> with_reducible rfl), ?_⟩
          refine ⟨[0, 1, 8, 3], by decide, rfl, ?_⟩
          rw [hop]
          exact ⟨rfl, (by first | rfl | (simp only [go_sem, Bk.addE, List.map_append, List.length_append]; done) | (simp only [go_sem, Bk.addE, List.map_append, List.length_append] <;> rfl))⟩
theorem Bk.add_ok {b : Bk} (hk : b.Ok) (hl : b.all.length < 1000000) (id st to : Int) : (b.add id st to).1.Ok := by
  unfold Bk.add
  split
  · exact hk
  · cases hf : findX Ent.id id b.all 0 with
    | some p =>
      simp only
      split <;> exact hk
    | none =>
      simp only
      split
      · exact hk
      · split
        · exact hk
        · refine ⟨?_, fun y hy => ?_, by simp only [Bk.addE, List.length_append, List.length_cons, List.length_nil]; omega, hk.dl, fun e he => ?_⟩
          · simp only [Bk.addE, List.map_append, List.map_cons, List.map_nil]
            refine List.nodup_append.2 ⟨hk.nd, by simp, fun x hx y hy => ?_⟩
            rw [List.mem_singleton.1 hy]
            obtain ⟨e, he, rfl⟩ := List.mem_map.1 hx
            exact findX_none.1 hf e he
          · obtain ⟨e, he, h⟩ := hk.dk y hy
            exact ⟨e, List.mem_append.2 (.inl he), h⟩
          · rcases List.mem_append.1 he with he | he
            · exact hk.sr e he
            · rw [List.mem_singleton.1 he]; exact .inl rfl
theorem Bk.cancel_ok {b : Bk} (hk : b.Ok) (x : Int) : (b.cancel x).1.Ok := by
  unfold Bk.cancel
  cases hf : findX Ent.id x b.all 0 with
  | none => exact hk
  | some p =>
    obtain ⟨i, e⟩ := p
    obtain ⟨hm, hx, hi⟩ := findX_mem hf
    simp only
    split
    · exact Bk.set_ok hk hi (by decide)
    · split
      · exact hk
      · split <;> exact hk
theorem Bk.nil_ok : Bk.nil.Ok := ⟨List.nodup_nil, fun x hx => by simp [Bk.nil] at hx, by simp [Bk.nil], by simp [Bk.nil], fun e he => by simp [Bk.nil] at he⟩
theorem Bk.add_len (b : Bk) (id st to : Int) : (b.add id st to).1.all.length ≤ b.all.length + 1 ∧ (b.add id st to).1.done = b.done := by
  unfold Bk.add
  split
  · exact ⟨Nat.le_succ _, rfl⟩
  · cases findX Ent.id id b.all 0 with
    | some p => simp only; split <;> exact ⟨Nat.le_succ _, rfl⟩
    | none =>
      simp only
      split
      · exact ⟨Nat.le_succ _, rfl⟩
      · split
        · exact ⟨Nat.le_succ _, rfl⟩
        · exact ⟨by simp [Bk.addE], rfl⟩
theorem Bk.cancel_len (b : Bk) (x : Int) : (b.cancel x).1.all.length = b.all.length ∧ (b.cancel x).1.done = b.done := by
  unfold Bk.cancel
  cases findX Ent.id x b.all 0 with
  | none => exact ⟨rfl, rfl⟩
  | some p =>
    simp only
    split
    · exact ⟨by simp [Bk.set], rfl⟩
    · split
      · exact ⟨rfl, rfl⟩
      · split <;> exact ⟨rfl, rfl⟩
theorem Bk.serve_len (b : Bk) (x : Int) : (b.serve x).1.all.length = b.all.length ∧ (b.serve x).1.done.length ≤ b.done.length + 1 := by
  unfold Bk.serve
  cases findX Ent.id x b.all 0 with
  | none => exact ⟨rfl, Nat.le_succ _⟩
  | some p =>
    simp only
    split
    · split
      · exact ⟨by simp, by simp⟩
      · exact ⟨rfl, Nat.le_succ _⟩
    · exact ⟨rfl, Nat.le_succ _⟩
end Go.Proofs.Ythnoccmngpoibaa.Ab
