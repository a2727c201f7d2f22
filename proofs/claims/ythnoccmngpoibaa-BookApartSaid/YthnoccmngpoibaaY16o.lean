/- Chapter 16: a second call changes nothing. -/
import Derived.Test.YthnoccmngpoibaaY16i
import Derived.Test.YthnoccmngpoibaaY16l
namespace Go.Proofs.Ythnoccmngpoibaa.Ab
open Go
set_option linter.unusedVariables false
set_option linter.unusedSimpArgs false
variable {T : AT}
theorem findX_app {key : Ent → Int} {k : Int} {x : Ent} (hx : key x = k) : ∀ {l : List Ent} {j : Nat}, findX key k l j = none → findX key k (l ++ [x]) j = some (j + l.length, x)
  | [], j, _ => by simp [findX, hx]
  | y :: l, j, h => by
    simp only [findX] at h
    split at h
    · cases h
    · rename_i hy
      rw [List.cons_append, findX, if_neg hy, findX_app hx h]
      simp only [List.length_cons]
      congr 2; omega
theorem Bk.add_again (b : Bk) (id st to : Int) : (b.add id st to).1.add id st to = ((b.add id st to).1, false, (b.add id st to).2.2) := by
  rcases Bk.add_cases b id st to with ⟨h1, h2⟩ | ⟨h1, h2, h3, hf, _, _, hb⟩
  · rw [h2]
    have : b.add id st to = ((b.add id st to).1, (b.add id st to).2.1, (b.add id st to).2.2) := rfl
    rw [this, h1, h2]
  · rw [h2, h3]
    have hf2 : findX Ent.id id (b.addE id st to).all 0 = some (0 + b.all.length, ⟨id, st, to, 1⟩) := findX_app (key := Ent.id) (k := id) (x := ⟨id, st, to, 1⟩) (l := b.all) (j := 0) rfl hf
    rw [Bk.add, if_neg hb, hf2]
    simp
theorem set_find {b : Bk} (hk : b.Ok) {x : Int} {i : Nat} {e : Ent} {s : Int} (hs : s = 1 ∨ s = 2 ∨ s = 3) (hf : findX Ent.id x b.all 0 = some (i, e)) : ∃ j, findX Ent.id x (b.set i e s).all 0 = some (j, ⟨e.id, e.st, e.to, s⟩) := by
  obtain ⟨hm, hx, hi⟩ := findX_mem hf
  have hk2 := Bk.set_ok hk hi hs
  obtain ⟨j, hj, _⟩ := hk2.find (e := ⟨e.id, e.st, e.to, s⟩) (List.mem_iff_getElem?.2 ⟨i, List.getElem?_set_self (List.getElem?_eq_some_iff.1 hi).1⟩)
  exact ⟨j, by rw [← hx]; exact hj⟩
theorem Bk.cancel_again {b : Bk} (hk : b.Ok) (x : Int) : (b.cancel x).1.cancel x = ((b.cancel x).1, false, (b.cancel x).2.2) := by
  rcases Bk.cancel_cases hk x with ⟨h1, h2⟩ | ⟨h1, h2, i, e, hf, he, h3⟩
  · rw [h2]
    have : b.cancel x = ((b.cancel x).1, (b.cancel x).2.1, (b.cancel x).2.2) := rfl
    rw [this, h1, h2]
  · rw [h2, h3]
    obtain ⟨j, hj⟩ := set_find hk (s := 3) (by decide) hf
    rw [Bk.cancel, hj]
    simp
theorem Bk.serve_again {b : Bk} (hk : b.Ok) (x : Int) (h : (b.serve x).2 = 0) : (b.serve x).1.serve x = ((b.serve x).1, 140) := by
  rcases Bk.serve_cases b x with ⟨h1, h2⟩ | ⟨_, i, e, hf, he, hfi, h3⟩
  · exact (h1 h).elim
  · rw [h3]
    obtain ⟨j, hj⟩ := set_find hk (s := 2) (by decide) hf
    rw [Bk.serve]
    simp only [hj]
    simp
theorem same2_spec (c : TabR16 T) (l : List Ent) (hl : l.length ≤ 1000000) : Ret2 T 2 i_stillageref16_Same [.sl 3 0 0 l.length none, .sl 3 1 0 l.length none] [some (.arr 3 (l.map Ent.r)), some (.arr 3 (l.map Ent.r))] (fun v h' => v = .b true ∧ h' = [some (.arr 3 (l.map Ent.r)), some (.arr 3 (l.map Ent.r))]) := by
  refine Ret2_fnv c.same rfl rfl ?_
  have he : decide ((l.length : Int) = (l.length : Int)) = true := by simp
  (repeat' with_reducible first | refine thn2_nrm ?_ | refine thn2_ret ?_ | refine thn2_ex ?_ | refine blk2_nrm ?_ | refine blk2_ret ?_ | refine blk2_at ?_ | (refine blk2_ex ?_ ?_; decide) | refine W2_sas ?_ | refine W2_ss ?_ | refine W2_sret ?_ | refine W2_sexit ?_ | ((first | apply W2_sra | apply W2_srda | apply W2_runa | apply W2_runda); (conv => lhs; simp only [go_sem, ibin, ishift, he]) <;> rfl) | ((first | apply W2_srS | apply W2_runS); decide +kernel; (conv => lhs; simp only [go_sem, ibin, ishift, he]) <;> rfl) | ((first | apply W2_sct | apply W2_t2); (conv => lhs; simp only [go_sem]) <;> rfl; rfl) | ((first | apply W2_scf | apply W2_f2); (conv => lhs; simp only [go_sem]) <;> rfl; rfl) | refine W2_ret ?_ | refine W2_exit ?_ | refine W2_skip ?_ | refine W2_seq ?_ | refine W2_block ?_)
  refine W2_loopu (fun m u g => ∃ j, j + m = l.length ∧ u = [(13, .i .i64 j)] ∧ g = []) l.length ⟨0, by omega, rfl, rfl⟩ rfl rfl ?_
  rintro m u g ⟨j, hj, rfl, rfl⟩
  intro e1 h1 he1 hh1; simp only [egd, supE, hgd, supH, Nat.reduceEqDiff, Nat.reduceAdd, if_true, if_false, reduceIte] at he1 hh1; subst he1; subst hh1
  (repeat' with_reducible first | refine thn2_nrm ?_ | refine thn2_ret ?_ | refine thn2_ex ?_ | refine blk2_nrm ?_ | refine blk2_ret ?_ | refine blk2_at ?_ | (refine blk2_ex ?_ ?_; decide) | refine W2_sas ?_ | refine W2_ss ?_ | refine W2_sret ?_ | refine W2_sexit ?_ | ((first | apply W2_sra | apply W2_srda | apply W2_runa | apply W2_runda); (conv => lhs; simp only [go_sem, ibin, ishift]) <;> rfl) | ((first | apply W2_srS | apply W2_runS); decide +kernel; (conv => lhs; simp only [go_sem, ibin, ishift]) <;> rfl) | ((first | apply W2_sct | apply W2_t2); (conv => lhs; simp only [go_sem]) <;> rfl; rfl) | ((first | apply W2_scf | apply W2_f2); (conv => lhs; simp only [go_sem]) <;> rfl; rfl) | refine W2_ret ?_ | refine W2_exit ?_ | refine W2_skip ?_ | refine W2_seq ?_ | refine W2_block ?_)
  (((first | with_reducible apply W2_sc | with_reducible apply W2_cond); ((conv => lhs; simp only [go_sem]) <;> with_reducible rfl)) <;> intro hx <;> (try rw [hx]) <;> simp only [Bool.or_eq_true, Bool.and_eq_true, decide_eq_true_eq, Bool.or_eq_false_iff, Bool.and_eq_false_iff, decide_eq_false_iff_not, Bool.not_eq_true', Bool.not_eq_false', bne_iff_ne, beq_iff_eq, not_or, not_and, Decidable.not_not, ne_eq, gt_iff_lt, ge_iff_le, Int.not_lt, Int.not_le] at hx)
  · have hjl : j < l.length := by omega
    have hg := List.getElem?_eq_getElem hjl
    have htk : l.take (j + 1) = l.take j ++ [l[j]] := by rw [List.take_add_one, List.getElem?_eq_getElem hjl]; rfl
    have hmem := List.getElem_mem hjl
    generalize l[j] = e at hg htk hmem
    have h0 : (0 : Int) ≤ (j : Int) := by omega
    have h1 : (j : Int) < (l.length : Int) := by omega
    (repeat' with_reducible first | refine thn2_nrm ?_ | refine thn2_ret ?_ | refine thn2_ex ?_ | refine blk2_nrm ?_ | refine blk2_ret ?_ | refine blk2_at ?_ | (refine blk2_ex ?_ ?_; decide) | refine W2_sas ?_ | refine W2_ss ?_ | refine W2_sret ?_ | refine W2_sexit ?_ | ((first | apply W2_sra | apply W2_srda | apply W2_runa | apply W2_runda); (conv => lhs; simp only [go_sem, ibin, ishift, hg, hjl, Ent.r, h0, h1, wS (show j < 9223372036854775807 by omega)]) <;> rfl) | ((first | apply W2_srS | apply W2_runS); decide +kernel; (conv => lhs; simp only [go_sem, ibin, ishift, hg, hjl, Ent.r, h0, h1, wS (show j < 9223372036854775807 by omega)]) <;> rfl) | ((first | apply W2_sct | apply W2_t2); (conv => lhs; simp only [go_sem]) <;> rfl; rfl) | ((first | apply W2_scf | apply W2_f2); (conv => lhs; simp only [go_sem]) <;> rfl; rfl) | refine W2_ret ?_ | refine W2_exit ?_ | refine W2_skip ?_ | refine W2_seq ?_ | refine W2_block ?_)
    refine ⟨[0, 1], by decide, rfl, ?_⟩
    exact ⟨l.length - (j + 1), _, _, by omega, ⟨j + 1, by omega, rfl, rfl⟩, rfl, (by first | rfl | ((conv => lhs; simp only [go_sem, ibin, ishift]) <;> rfl))⟩
  · (repeat' with_reducible first | refine thn2_nrm ?_ | refine thn2_ret ?_ | refine thn2_ex ?_ | refine blk2_nrm ?_ | refine blk2_ret ?_ | refine blk2_at ?_ | (refine blk2_ex ?_ ?_; decide) | refine W2_sas ?_ | refine W2_ss ?_ | refine W2_sret ?_ | refine W2_sexit ?_ | ((first | apply W2_sra | apply W2_srda | apply W2_runa | apply W2_runda); (conv => lhs; simp only [go_sem, ibin, ishift]) <;> rfl) | ((first | apply W2_srS | apply W2_runS); decide +kernel; (conv => lhs; simp only [go_sem, ibin, ishift]) <;> rfl) | ((first | apply W2_sct | apply W2_t2); (conv => lhs; simp only [go_sem]) <;> rfl; rfl) | ((first | apply W2_scf | apply W2_f2); (conv => lhs; simp only [go_sem]) <;> rfl; rfl) | refine W2_ret ?_ | refine W2_exit ?_ | refine W2_skip ?_ | refine W2_seq ?_ | refine W2_block ?_)
    refine ⟨by first | exact .inr rfl | exact .inl rfl, _, _, (by (conv => lhs; simp only [go_sem, ibin, ishift]) <;> with_reducible rfl), (by (conv => lhs; simp only [go_sem, ibin, ishift]) <;> with_reducible rfl), ?_⟩
    refine ⟨[0, 1], by decide, rfl, ?_⟩
    exact ⟨rfl, rfl⟩
end Go.Proofs.Ythnoccmngpoibaa.Ab
