/- Chapter 16: a book is changed. -/
import Derived.Test.YthnoccmngpoibaaY16b
namespace Go.Proofs.Ythnoccmngpoibaa.Ab
open Go
set_option linter.unusedVariables false
set_option linter.unusedSimpArgs false
variable {T : AT}
structure TabC16 (T : AT) : Prop extends TabB16 T where
  new : T i_book_New = some (.fn c_book_New)
  end_ : T i_book_Book_end = some (.fn c_book_Book_end)
  cancel : T i_book_Book_Cancel = some (.fn c_book_Book_Cancel)
  serve : T i_book_Book_Serve = some (.fn c_book_Book_Serve)
  add : T i_book_Book_Add = some (.fn c_book_Book_Add)
def Bk.nil : Bk := ⟨[], []⟩
theorem new_spec (c : TabC16 T) : Ret2 T 0 i_book_New [] [] (fun v h' => v = .ptr 0 0 ∧ h' = Bk.nil.h) := by
  refine Ret2_fnv c.new rfl rfl ?_
  ((repeat' with_reducible first | refine thn2_nrm ?_ | refine thn2_ret ?_ | refine thn2_ex ?_ | refine blk2_nrm ?_ | refine blk2_ret ?_ | refine blk2_at ?_ | (refine blk2_ex ?_ ?_; decide) | refine W2_sas ?_ | refine W2_ss ?_ | refine W2_sret ?_ | refine W2_sexit ?_ | refine W2_skip ?_ | ((first | apply W2_sct | apply W2_t2); (conv => lhs; simp only [go_sem]) <;> rfl; rfl) | ((first | apply W2_scf | apply W2_f2); (conv => lhs; simp only [go_sem]) <;> rfl; rfl) | refine W2_block ?_ | refine W2_seq ?_ | refine W2_exit ?_); (first | ((with_reducible first | apply W2_sra | apply W2_srda | apply W2_runa | apply W2_runda); ((conv => lhs; simp only [go_sem, ibin, ishift]) <;> with_reducible rfl)) | ((with_reducible first | apply W2_srS | apply W2_runS); decide +kernel; ((conv => lhs; simp only [go_sem, ibin, ishift]) <;> with_reducible rfl))))
  ((repeat' with_reducible first | refine thn2_nrm ?_ | refine thn2_ret ?_ | refine thn2_ex ?_ | refine blk2_nrm ?_ | refine blk2_ret ?_ | refine blk2_at ?_ | (refine blk2_ex ?_ ?_; decide) | refine W2_sas ?_ | refine W2_ss ?_ | refine W2_sret ?_ | refine W2_sexit ?_ | refine W2_skip ?_ | ((first | apply W2_sct | apply W2_t2); (conv => lhs; simp only [go_sem]) <;> rfl; rfl) | ((first | apply W2_scf | apply W2_f2); (conv => lhs; simp only [go_sem]) <;> rfl; rfl) | refine W2_block ?_ | refine W2_seq ?_ | refine W2_exit ?_); (first | ((with_reducible first | apply W2_sra | apply W2_srda | apply W2_runa | apply W2_runda); ((conv => lhs; simp only [go_sem, ibin, ishift]) <;> with_reducible rfl)) | ((with_reducible first | apply W2_srS | apply W2_runS); decide +kernel; ((conv => lhs; simp only [go_sem, ibin, ishift]) <;> with_reducible rfl))))
  refine W2.weak (Wk.nilc 1 1 1 rfl rfl) ?_
  refine W2.weak (Wk.nilc 1 2 1 rfl rfl) ?_
  (repeat' with_reducible first | refine thn2_nrm ?_ | refine thn2_ret ?_ | refine thn2_ex ?_ | refine blk2_nrm ?_ | refine blk2_ret ?_ | refine blk2_at ?_ | (refine blk2_ex ?_ ?_; decide) | refine W2_sas ?_ | refine W2_ss ?_ | refine W2_sret ?_ | refine W2_sexit ?_ | ((first | apply W2_sra | apply W2_srda | apply W2_runa | apply W2_runda); (conv => lhs; simp only [go_sem, ibin, ishift]) <;> rfl) | ((first | apply W2_srS | apply W2_runS); decide +kernel; (conv => lhs; simp only [go_sem, ibin, ishift]) <;> rfl) | ((first | apply W2_sct | apply W2_t2); (conv => lhs; simp only [go_sem]) <;> rfl; rfl) | ((first | apply W2_scf | apply W2_f2); (conv => lhs; simp only [go_sem]) <;> rfl; rfl) | refine W2_ret ?_ | refine W2_exit ?_ | refine W2_skip ?_ | refine W2_seq ?_ | refine W2_block ?_)
  refine ⟨by first | exact .inr rfl | exact .inl rfl, _, _, (by (conv => lhs; simp only [go_sem, ibin, ishift]) <;> with_reducible rfl), (by (conv => lhs; simp only [go_sem, ibin, ishift]) <;> with_reducible rfl), ?_⟩
  refine ⟨[1, 0, 2, 3], by decide, rfl, ?_⟩
  exact ⟨rfl, rfl⟩
def Bk.set (b : Bk) (i : Nat) (e : Ent) (s : Int) : Bk := ⟨b.all.set i ⟨e.id, e.st, e.to, s⟩, b.done⟩
theorem filter_set {e f : Ent} (hf : isO f = false) (hs : isO e = true) : ∀ (l : List Ent) (i : Nat), (l.map Ent.id).Nodup → l[i]? = some e → ((l.set i f).filter isO).map Ent.id = dr e.id ((l.filter isO).map Ent.id)
  | [], i, _, h => by simp at h
  | x :: l, 0, hn, h => by
    simp at h; subst h
    rw [List.map_cons, List.nodup_cons] at hn
    have hd : dr x.id ((l.filter isO).map Ent.id) = (l.filter isO).map Ent.id := dr_id (List.all_eq_true.2 fun y hy => by
      obtain ⟨z, hz, rfl⟩ := List.mem_map.1 hy
      refine decide_eq_true fun h => hn.1 (h ▸ List.mem_map_of_mem (List.mem_filter.1 hz).1))
    rw [List.set_cons_zero, List.filter_cons, hf, List.filter_cons, hs, if_pos rfl]
    simp only [Bool.false_eq_true, if_false, List.map_cons]
    rw [← List.singleton_append, dr_app, hd]
    simp [dr]
  | x :: l, i + 1, hn, h => by
    rw [List.map_cons, List.nodup_cons] at hn
    have ih := filter_set hf hs l i hn.2 (by simpa using h)
    have hne : x.id ≠ e.id := fun h' => hn.1 (h' ▸ List.mem_map_of_mem (List.mem_of_getElem? (by simpa using h)))
    rw [List.set_cons_succ, List.filter_cons, List.filter_cons]
    split
    · rw [List.map_cons, List.map_cons, ih]
      simp [dr, hne]
    · exact ih
theorem Bk.set_opn {b : Bk} (hk : b.Ok) {i : Nat} {e : Ent} {s : Int} (hi : b.all[i]? = some e) (he : e.s = 1) (hs : s ≠ 1) : (b.set i e s).opE.map Ent.id = dr e.id (b.opE.map Ent.id) :=
  filter_set (by simp [isO, hs]) (by simp [isO, he]) b.all i hk.nd hi
theorem end_spec (c : TabC16 T) (b : Bk) (hk : b.Ok) {x s : Int} {i : Nat} {e : Ent} (hf : findX Ent.id x b.all 0 = some (i, e)) (he : e.s = 1) (hs : s ≠ 1) :
    Ret2 T 4 i_book_Book_end [.ptr 0 0, .i .i64 x, .i .i64 s] b.h (fun v h' => v = .tup [] ∧ h' = (b.set i e s).h) := by
  refine Ret2_fnv c.end_ rfl rfl ?_
  obtain ⟨_, hx, hi⟩ := findX_mem hf
  have ho := Bk.set_opn hk hi he hs
  have hol : (b.set i e s).opE.length = (dr x (b.opE.map Ent.id)).length := by rw [← hx, ← ho, List.length_map]
  rw [hx] at ho
  have hset : (List.map (mA Ent.id cE) b.all).set i (SV.p (PV.i IntKind.i64 x), SV.agg [SV.p (PV.i IntKind.i64 e.id), SV.p (PV.i IntKind.i64 e.st), SV.p (PV.i IntKind.i64 e.to), SV.p (PV.i IntKind.i64 s)]) = List.map (mA Ent.id cE) (b.set i e s).all := by
    rw [Bk.set, List.map_set]; congr 1; rw [← hx]; rfl
  unfold Bk.h
  rw [ho, hol]
  (repeat' with_reducible first | refine thn2_nrm ?_ | refine thn2_ret ?_ | refine thn2_ex ?_ | refine blk2_nrm ?_ | refine blk2_ret ?_ | refine blk2_at ?_ | (refine blk2_ex ?_ ?_; decide) | refine W2_sas ?_ | refine W2_ss ?_ | refine W2_sret ?_ | refine W2_sexit ?_ | ((first | apply W2_sra | apply W2_srda | apply W2_runa | apply W2_runda); (conv => lhs; simp only [go_sem, ibin, ishift, hf, cE, hset]) <;> rfl) | ((first | apply W2_srS | apply W2_runS); decide +kernel; (conv => lhs; simp only [go_sem, ibin, ishift, hf, cE, hset]) <;> rfl) | ((first | apply W2_sct | apply W2_t2); (conv => lhs; simp only [go_sem]) <;> rfl; rfl) | ((first | apply W2_scf | apply W2_f2); (conv => lhs; simp only [go_sem]) <;> rfl; rfl) | refine W2_ret ?_ | refine W2_exit ?_ | refine W2_skip ?_ | refine W2_seq ?_ | refine W2_block ?_)
  (first | (((with_reducible first | apply W2_scall | apply W2_scalld | apply W2_calla | apply W2_callda | apply run2a_sound); ((conv => lhs; simp only [go_sem, ibin, ishift, hf, cE]) <;> with_reducible rfl))) | ((with_reducible first | apply W2_scallS | apply W2_callS); decide +kernel; ((conv => lhs; simp only [go_sem, ibin, ishift, hf, cE]) <;> with_reducible rfl)))
  refine CK_call [2, 4] (delf_spec c.toTabS16 x (b.opE.map Ent.id) (by rw [List.length_map]; exact Nat.le_trans b.opE_len hk.len)) (by decide) (by simp) rfl (by first | rfl | (simp only [go_sem, Bk.h]; done) | (simp only [go_sem, Bk.h] <;> rfl)) (by first | rfl | (simp only [go_sem, Bk.h]; done) | (simp only [go_sem, Bk.h] <;> rfl)) ?_
  rintro v h' ⟨rfl, rfl⟩
  (first | (((with_reducible first | apply W2_scall | apply W2_scalld | apply W2_calla | apply W2_callda | apply run2a_sound); ((conv => lhs; simp only [go_sem, ibin, ishift]) <;> with_reducible rfl))) | ((with_reducible first | apply W2_scallS | apply W2_callS); decide +kernel; ((conv => lhs; simp only [go_sem, ibin, ishift]) <;> with_reducible rfl)))
  show (_ ∨ _) ∧ _
  refine ⟨by first | exact .inr rfl | exact .inl rfl, _, _, (by (conv => lhs; simp only [go_sem, ibin, ishift]) <;> with_reducible rfl), (by (conv => lhs; simp only [go_sem, ibin, ishift]) <;> with_reducible rfl), ?_⟩
  refine ⟨[0, 1, 2, 3], by decide, rfl, ?_⟩
  exact ⟨rfl, (by first | rfl | (simp only [go_sem, Bk.set]; done) | (simp only [go_sem, Bk.set] <;> rfl))⟩
theorem Bk.set_ok {b : Bk} (hk : b.Ok) {i : Nat} {e : Ent} {s : Int} (hi : b.all[i]? = some e) (hs : s = 1 ∨ s = 2 ∨ s = 3) : (b.set i e s).Ok where
  nd := by
    have : ((b.set i e s).all.map Ent.id) = b.all.map Ent.id := by
      rw [Bk.set, List.map_set]
      apply List.ext_getElem?
      intro j
      rw [List.getElem?_set]
      split
      · rename_i h; subst h
        rw [List.getElem?_map, hi]
        simp [(List.getElem?_eq_some_iff.1 hi).1]
      · rfl
    rw [this]; exact hk.nd
  dk := fun x hx => by
    obtain ⟨f, hf, rfl⟩ := hk.dk x hx
    obtain ⟨j, hj⟩ := List.mem_iff_getElem?.1 hf
    have hl := (List.getElem?_eq_some_iff.1 hj).1
    by_cases h : i = j
    · subst h
      rw [hi] at hj; cases hj
      exact ⟨⟨e.id, e.st, e.to, s⟩, List.mem_iff_getElem?.2 ⟨i, by rw [Bk.set, List.getElem?_set_self hl]⟩, rfl⟩
    · exact ⟨f, List.mem_iff_getElem?.2 ⟨j, by rw [Bk.set, List.getElem?_set_ne h]; exact hj⟩, rfl⟩
  len := by rw [Bk.set, List.length_set]; exact hk.len
  dl := hk.dl
  sr := fun f hf => by
    rcases List.mem_or_eq_of_mem_set hf with h | rfl
    · exact hk.sr f h
    · exact hs
def Bk.cancel (b : Bk) (x : Int) : Bk × Bool × Int :=
  match findX Ent.id x b.all 0 with
  | some (i, e) => if e.s = 1 then (b.set i e 3, true, 0) else if e.s = 2 then (b, false, 140) else if e.s = 3 then (b, false, 0) else (b, false, 4)
  | none => (b, false, 4)
theorem cancel_spec (c : TabC16 T) (b : Bk) (hk : b.Ok) (x : Int) : Ret2 T 4 i_book_Book_Cancel [.ptr 0 0, .i .i64 x] b.h (fun v h' => v = .tup [.b (b.cancel x).2.1, .i .i64 (b.cancel x).2.2] ∧ h' = (b.cancel x).1.h) := by
  refine Ret2_fnv c.cancel rfl rfl ?_
  have hst : b.state x = match findX Ent.id x b.all 0 with | some (_, e) => e.s | none => 0 := rfl
  unfold Bk.h
  (repeat' with_reducible first | refine thn2_nrm ?_ | refine thn2_ret ?_ | refine thn2_ex ?_ | refine blk2_nrm ?_ | refine blk2_ret ?_ | refine blk2_at ?_ | (refine blk2_ex ?_ ?_; decide) | refine W2_sas ?_ | refine W2_ss ?_ | refine W2_sret ?_ | refine W2_sexit ?_ | ((first | apply W2_sra | apply W2_srda | apply W2_runa | apply W2_runda); (conv => lhs; simp only [go_sem, ibin, ishift]) <;> rfl) | ((first | apply W2_srS | apply W2_runS); decide +kernel; (conv => lhs; simp only [go_sem, ibin, ishift]) <;> rfl) | ((first | apply W2_sct | apply W2_t2); (conv => lhs; simp only [go_sem]) <;> rfl; rfl) | ((first | apply W2_scf | apply W2_f2); (conv => lhs; simp only [go_sem]) <;> rfl; rfl) | refine W2_ret ?_ | refine W2_exit ?_ | refine W2_skip ?_ | refine W2_seq ?_ | refine W2_block ?_)
  (first | (((with_reducible first | apply W2_scall | apply W2_scalld | apply W2_calla | apply W2_callda | apply run2a_sound); ((conv => lhs; simp only [go_sem, ibin, ishift]) <;> with_reducible rfl))) | ((with_reducible first | apply W2_scallS | apply W2_callS); decide +kernel; ((conv => lhs; simp only [go_sem, ibin, ishift]) <;> with_reducible rfl)))
  refine CK_call [0, 1, 2, 3] (state_spec c.toTabB16 b x) (by decide) (by simp [Bk.h]) rfl rfl (by first | rfl | (simp only [go_sem, Bk.h]; done) | (simp only [go_sem, Bk.h] <;> rfl)) ?_
  rintro v h' ⟨rfl, rfl⟩
  unfold Bk.h
  ((with_reducible first | apply WO2_finw | apply WO2_fina); ((conv => lhs; simp only [go_sem, ibin, ishift]) <;> with_reducible rfl))
  (repeat' with_reducible first | refine thn2_nrm ?_ | refine thn2_ret ?_ | refine thn2_ex ?_ | refine blk2_nrm ?_ | refine blk2_ret ?_ | refine blk2_at ?_ | (refine blk2_ex ?_ ?_; decide) | refine W2_sas ?_ | refine W2_ss ?_ | refine W2_sret ?_ | refine W2_sexit ?_ | ((first | apply W2_sra | apply W2_srda | apply W2_runa | apply W2_runda); (conv => lhs; simp only [go_sem, ibin, ishift]) <;> rfl) | ((first | apply W2_srS | apply W2_runS); decide +kernel; (conv => lhs; simp only [go_sem, ibin, ishift]) <;> rfl) | ((first | apply W2_sct | apply W2_t2); (conv => lhs; simp only [go_sem]) <;> rfl; rfl) | ((first | apply W2_scf | apply W2_f2); (conv => lhs; simp only [go_sem]) <;> rfl; rfl) | refine W2_ret ?_ | refine W2_exit ?_ | refine W2_skip ?_ | refine W2_seq ?_ | refine W2_block ?_)
  cases hf : findX Ent.id x b.all 0 with
  | none =>
    rw [hf] at hst
    simp only at hst
    simp only [Bk.cancel, hf, hst]
    (repeat' first | (with_reducible first | refine thn2_nrm ?_ | refine thn2_ret ?_ | refine thn2_ex ?_ | refine blk2_nrm ?_ | refine blk2_ret ?_ | refine blk2_at ?_ | (refine blk2_ex ?_ ?_; decide) | refine W2_sas ?_ | refine W2_ss ?_ | refine W2_sret ?_ | refine W2_sexit ?_ | ((first | apply W2_sra | apply W2_srda | apply W2_runa | apply W2_runda); (conv => lhs; simp only [go_sem, ibin, ishift]) <;> rfl) | ((first | apply W2_srS | apply W2_runS); decide +kernel; (conv => lhs; simp only [go_sem, ibin, ishift]) <;> rfl) | ((first | apply W2_sct | apply W2_t2); (conv => lhs; simp only [go_sem]) <;> rfl; rfl) | ((first | apply W2_scf | apply W2_f2); (conv => lhs; simp only [go_sem]) <;> rfl; rfl) | refine W2_ret ?_ | refine W2_exit ?_ | refine W2_skip ?_ | refine W2_seq ?_ | refine W2_block ?_) | (((first | with_reducible apply W2_sc | with_reducible apply W2_cond); ((conv => lhs; simp only [go_sem]) <;> with_reducible rfl)) <;> intro hx <;> (try rw [hx]) <;> simp only [Bool.or_eq_true, Bool.and_eq_true, decide_eq_true_eq, Bool.or_eq_false_iff, Bool.and_eq_false_iff, decide_eq_false_iff_not, Bool.not_eq_true', Bool.not_eq_false', bne_iff_ne, beq_iff_eq, not_or, not_and, Decidable.not_not, ne_eq, gt_iff_lt, ge_iff_le, Int.not_lt, Int.not_le] at hx))
    refine ⟨by first | exact .inr rfl | exact .inl rfl, _, _, (by (conv => lhs; simp only [go_sem, ibin, ishift]) <;> with_reducible rfl), (by (conv => lhs; simp only [go_sem, ibin, ishift]) <;> with_reducible rfl), ?_⟩
    refine ⟨[0, 1, 2, 3], by decide, rfl, ?_⟩
    exact ⟨rfl, (by first | rfl | (simp only [go_sem, Bk.h]; done) | (simp only [go_sem, Bk.h] <;> rfl))⟩
  | some p =>
    obtain ⟨i, e⟩ := p
    obtain ⟨_, hx, hi⟩ := findX_mem hf
    rw [hf] at hst
    simp only at hst
    simp only [Bk.cancel, hf, hst]
    by_cases h1 : e.s = 1
    · have d1 : decide (e.s = 1) = true := decide_eq_true h1
      simp only [h1, if_true]
      (repeat' with_reducible first | refine thn2_nrm ?_ | refine thn2_ret ?_ | refine thn2_ex ?_ | refine blk2_nrm ?_ | refine blk2_ret ?_ | refine blk2_at ?_ | (refine blk2_ex ?_ ?_; decide) | refine W2_sas ?_ | refine W2_ss ?_ | refine W2_sret ?_ | refine W2_sexit ?_ | ((first | apply W2_sra | apply W2_srda | apply W2_runa | apply W2_runda); (conv => lhs; simp only [go_sem, ibin, ishift, d1]) <;> rfl) | ((first | apply W2_srS | apply W2_runS); decide +kernel; (conv => lhs; simp only [go_sem, ibin, ishift, d1]) <;> rfl) | ((first | apply W2_sct | apply W2_t2); (conv => lhs; simp only [go_sem]) <;> rfl; rfl) | ((first | apply W2_scf | apply W2_f2); (conv => lhs; simp only [go_sem]) <;> rfl; rfl) | refine W2_ret ?_ | refine W2_exit ?_ | refine W2_skip ?_ | refine W2_seq ?_ | refine W2_block ?_)
      (first | (((with_reducible first | apply W2_scall | apply W2_scalld | apply W2_calla | apply W2_callda | apply run2a_sound); ((conv => lhs; simp only [go_sem, ibin, ishift]) <;> with_reducible rfl))) | ((with_reducible first | apply W2_scallS | apply W2_callS); decide +kernel; ((conv => lhs; simp only [go_sem, ibin, ishift]) <;> with_reducible rfl)))
      refine CK_call [0, 1, 2, 3] (end_spec c b hk hf h1 (show (3 : Int) ≠ 1 by decide)) (by decide) (by simp [Bk.h]) rfl rfl (by first | rfl | (simp only [go_sem, Bk.h]; done) | (simp only [go_sem, Bk.h] <;> rfl)) ?_
      rintro v h' ⟨rfl, rfl⟩
      unfold Bk.h
      ((with_reducible first | apply WO2_finw | apply WO2_fina); ((conv => lhs; simp only [go_sem, ibin, ishift]) <;> with_reducible rfl))
      (repeat' with_reducible first | refine thn2_nrm ?_ | refine thn2_ret ?_ | refine thn2_ex ?_ | refine blk2_nrm ?_ | refine blk2_ret ?_ | refine blk2_at ?_ | (refine blk2_ex ?_ ?_; decide) | refine W2_sas ?_ | refine W2_ss ?_ | refine W2_sret ?_ | refine W2_sexit ?_ | ((first | apply W2_sra | apply W2_srda | apply W2_runa | apply W2_runda); (conv => lhs; simp only [go_sem, ibin, ishift]) <;> rfl) | ((first | apply W2_srS | apply W2_runS); decide +kernel; (conv => lhs; simp only [go_sem, ibin, ishift]) <;> rfl) | ((first | apply W2_sct | apply W2_t2); (conv => lhs; simp only [go_sem]) <;> rfl; rfl) | ((first | apply W2_scf | apply W2_f2); (conv => lhs; simp only [go_sem]) <;> rfl; rfl) | refine W2_ret ?_ | refine W2_exit ?_ | refine W2_skip ?_ | refine W2_seq ?_ | refine W2_block ?_)
      refine ⟨by first | exact .inr rfl | exact .inl rfl, _, _, (by (conv => lhs; simp only [go_sem, ibin, ishift]) <;> with_reducible rfl), (by (conv => lhs; simp only [go_sem, ibin, ishift]) <;> with_reducible rfl), ?_⟩
      refine ⟨[0, 1, 2, 3], by decide, rfl, ?_⟩
      exact ⟨rfl, (by first | rfl | (simp only [go_sem, Bk.h]; done) | (simp only [go_sem, Bk.h] <;> rfl))⟩
    have d1 : decide (e.s = 1) = false := decide_eq_false h1
    by_cases h2 : e.s = 2
    · simp only [h2, if_true]
      (repeat' with_reducible first | refine thn2_nrm ?_ | refine thn2_ret ?_ | refine thn2_ex ?_ | refine blk2_nrm ?_ | refine blk2_ret ?_ | refine blk2_at ?_ | (refine blk2_ex ?_ ?_; decide) | refine W2_sas ?_ | refine W2_ss ?_ | refine W2_sret ?_ | refine W2_sexit ?_ | ((first | apply W2_sra | apply W2_srda | apply W2_runa | apply W2_runda); (conv => lhs; simp only [go_sem, ibin, ishift]) <;> rfl) | ((first | apply W2_srS | apply W2_runS); decide +kernel; (conv => lhs; simp only [go_sem, ibin, ishift]) <;> rfl) | ((first | apply W2_sct | apply W2_t2); (conv => lhs; simp only [go_sem]) <;> rfl; rfl) | ((first | apply W2_scf | apply W2_f2); (conv => lhs; simp only [go_sem]) <;> rfl; rfl) | refine W2_ret ?_ | refine W2_exit ?_ | refine W2_skip ?_ | refine W2_seq ?_ | refine W2_block ?_)
      refine ⟨by first | exact .inr rfl | exact .inl rfl, _, _, (by (conv => lhs; simp only [go_sem, ibin, ishift]) <;> with_reducible rfl), (by (conv => lhs; simp only [go_sem, ibin, ishift]) <;> with_reducible rfl), ?_⟩
      refine ⟨[0, 1, 2, 3], by decide, rfl, ?_⟩
      exact ⟨rfl, (by first | rfl | (simp only [go_sem, Bk.h]; done) | (simp only [go_sem, Bk.h] <;> rfl))⟩
    have d2 : decide (e.s = 2) = false := decide_eq_false h2
    by_cases h3 : e.s = 3
    · simp only [h3, if_true]
      (repeat' with_reducible first | refine thn2_nrm ?_ | refine thn2_ret ?_ | refine thn2_ex ?_ | refine blk2_nrm ?_ | refine blk2_ret ?_ | refine blk2_at ?_ | (refine blk2_ex ?_ ?_; decide) | refine W2_sas ?_ | refine W2_ss ?_ | refine W2_sret ?_ | refine W2_sexit ?_ | ((first | apply W2_sra | apply W2_srda | apply W2_runa | apply W2_runda); (conv => lhs; simp only [go_sem, ibin, ishift]) <;> rfl) | ((first | apply W2_srS | apply W2_runS); decide +kernel; (conv => lhs; simp only [go_sem, ibin, ishift]) <;> rfl) | ((first | apply W2_sct | apply W2_t2); (conv => lhs; simp only [go_sem]) <;> rfl; rfl) | ((first | apply W2_scf | apply W2_f2); (conv => lhs; simp only [go_sem]) <;> rfl; rfl) | refine W2_ret ?_ | refine W2_exit ?_ | refine W2_skip ?_ | refine W2_seq ?_ | refine W2_block ?_)
      refine ⟨by first | exact .inr rfl | exact .inl rfl, _, _, (by (conv => lhs; simp only [go_sem, ibin, ishift]) <;> with_reducible rfl), (by (conv => lhs; simp only [go_sem, ibin, ishift]) <;> with_reducible rfl), ?_⟩
      refine ⟨[0, 1, 2, 3], by decide, rfl, ?_⟩
      exact ⟨rfl, (by first | rfl | (simp only [go_sem, Bk.h]; done) | (simp only [go_sem, Bk.h] <;> rfl))⟩
    have d3 : decide (e.s = 3) = false := decide_eq_false h3
    simp only [h1, h2, h3, if_false]
    (repeat' with_reducible first | refine thn2_nrm ?_ | refine thn2_ret ?_ | refine thn2_ex ?_ | refine blk2_nrm ?_ | refine blk2_ret ?_ | refine blk2_at ?_ | (refine blk2_ex ?_ ?_; decide) | refine W2_sas ?_ | refine W2_ss ?_ | refine W2_sret ?_ | refine W2_sexit ?_ | ((first | apply W2_sra | apply W2_srda | apply W2_runa | apply W2_runda); (conv => lhs; simp only [go_sem, ibin, ishift, d1, d2, d3]) <;> rfl) | ((first | apply W2_srS | apply W2_runS); decide +kernel; (conv => lhs; simp only [go_sem, ibin, ishift, d1, d2, d3]) <;> rfl) | ((first | apply W2_sct | apply W2_t2); (conv => lhs; simp only [go_sem]) <;> rfl; rfl) | ((first | apply W2_scf | apply W2_f2); (conv => lhs; simp only [go_sem]) <;> rfl; rfl) | refine W2_ret ?_ | refine W2_exit ?_ | refine W2_skip ?_ | refine W2_seq ?_ | refine W2_block ?_)
    refine ⟨by first | exact .inr rfl | exact .inl rfl, _, _, (by (conv => lhs; simp only [go_sem, ibin, ishift]) <;> with_reducible rfl), (by (conv => lhs; simp only [go_sem, ibin, ishift]) <;> with_reducible rfl), ?_⟩
    refine ⟨[0, 1, 2, 3], by decide, rfl, ?_⟩
    exact ⟨rfl, (by first | rfl | (simp only [go_sem, Bk.h]; done) | (simp only [go_sem, Bk.h] <;> rfl))⟩
end Go.Proofs.Ythnoccmngpoibaa.Ab
