/- Chapter 10: Claim of a list that may be changed afterwards. -/
import Derived.Test.YtpgoemmjhnnmoaaY10h
namespace Go.Proofs.Ytpgoemmjhnnmoaa.Ab
open Go
set_option linter.unusedVariables false
set_option linter.unusedSimpArgs false
variable {T : AT}
/-- a table, and a list -/
def Tab.hl (t : Tab) (l : List Int) : SH := [some (.obj [.sl 1 2 0 t.hold.length none, .sl 2 3 0 t.q.length none]), some (.arr 1 (l.map cI)), some (.arr 1 (t.hold.map cI)), some (.arr 2 (t.q.map cQ))]
theorem inTl {t : Tab} {l : List Int} : ∀ x ∈ [0, 1, 2], x < (t.hl l).length := by simp [Tab.hl]
theorem inTl4 {t : Tab} {l : List Int} : ∀ x ∈ [0, 1, 2, 3], x < (t.hl l).length := by simp [Tab.hl]
theorem index_m (c : TabC1 T) (t : Tab) (l : List Int) (hl : l.length ≤ 1000000000) : Ret2 T 4 i_slices_IndexFunc_int_int [.sl 1 1 0 l.length none, .fn i_claim_Table_none [.ptr 0 0] []] (t.hl l) (fun v h' => (∃ r : Int, v = .i .i64 r ∧ decide (r ≥ 0) = l.any t.bad) ∧ h' = t.hl l) := by
  refine Ret2_fnv c.index rfl rfl ?_
  (repeat' with_reducible first | refine thn2_nrm ?_ | refine thn2_ret ?_ | refine thn2_ex ?_ | refine blk2_nrm ?_ | refine blk2_ret ?_ | refine blk2_at ?_ | (refine blk2_ex ?_ ?_; decide) | refine W2_sas ?_ | refine W2_ss ?_ | refine W2_sret ?_ | refine W2_sexit ?_ | ((first | apply W2_sra | apply W2_srda | apply W2_runa | apply W2_runda); (conv => lhs; simp only [go_sem, ibin, ishift]) <;> rfl) | ((first | apply W2_sct | apply W2_t2); (conv => lhs; simp only [go_sem]) <;> rfl; rfl) | ((first | apply W2_scf | apply W2_f2); (conv => lhs; simp only [go_sem]) <;> rfl; rfl) | refine W2_ret ?_ | refine W2_exit ?_ | refine W2_skip ?_ | refine W2_seq ?_ | refine W2_block ?_)
  refine W2_loopv (fun m e h => ∃ j, j + m = l.length ∧ (l.take j).any t.bad = false ∧ e = [(0, .sl 1 1 0 l.length none), (1, .fn i_claim_Table_none [.ptr 0 0] []), (7, .i .i64 l.length), (8, .i .i64 j)] ∧ h = t.hl l) l.length ⟨0, by omega, rfl, rfl, rfl⟩ ?_
  rintro m e h ⟨j, hj, hno, rfl, rfl⟩
  unfold Tab.hl
  (repeat' with_reducible first | refine thn2_nrm ?_ | refine thn2_ret ?_ | refine thn2_ex ?_ | refine blk2_nrm ?_ | refine blk2_ret ?_ | refine blk2_at ?_ | (refine blk2_ex ?_ ?_; decide) | refine W2_sas ?_ | refine W2_ss ?_ | refine W2_sret ?_ | refine W2_sexit ?_ | ((first | apply W2_sra | apply W2_srda | apply W2_runa | apply W2_runda); (conv => lhs; simp only [go_sem, ibin, ishift]) <;> rfl) | ((first | apply W2_sct | apply W2_t2); (conv => lhs; simp only [go_sem]) <;> rfl; rfl) | ((first | apply W2_scf | apply W2_f2); (conv => lhs; simp only [go_sem]) <;> rfl; rfl) | refine W2_ret ?_ | refine W2_exit ?_ | refine W2_skip ?_ | refine W2_seq ?_ | refine W2_block ?_)
  (((first | with_reducible apply W2_sc | with_reducible apply W2_cond); ((conv => lhs; simp only [go_sem]) <;> with_reducible rfl)) <;> intro hx <;> (try rw [hx]) <;> simp only [Bool.or_eq_true, Bool.and_eq_true, decide_eq_true_eq, Bool.or_eq_false_iff, Bool.and_eq_false_iff, decide_eq_false_iff_not, Bool.not_eq_true', Bool.not_eq_false', bne_iff_ne, beq_iff_eq, not_or, not_and, Decidable.not_not, ne_eq, gt_iff_lt, ge_iff_le, Int.not_lt, Int.not_le] at hx)
  · have hjl : j < l.length := by omega
    have hg := List.getElem?_eq_getElem hjl
    have htk : l.take (j + 1) = l.take j ++ [l[j]] := by rw [List.take_add_one, List.getElem?_eq_getElem hjl]; rfl
    have hm := List.getElem_mem hjl
    generalize l[j] = x at hg htk hm
    (repeat' with_reducible first | refine thn2_nrm ?_ | refine thn2_ret ?_ | refine thn2_ex ?_ | refine blk2_nrm ?_ | refine blk2_ret ?_ | refine blk2_at ?_ | (refine blk2_ex ?_ ?_; decide) | refine W2_sas ?_ | refine W2_ss ?_ | refine W2_sret ?_ | refine W2_sexit ?_ | ((first | apply W2_sra | apply W2_srda | apply W2_runa | apply W2_runda); (conv => lhs; simp only [go_sem, ibin, ishift, hg, hjl, cI]) <;> rfl) | ((first | apply W2_sct | apply W2_t2); (conv => lhs; simp only [go_sem]) <;> rfl; rfl) | ((first | apply W2_scf | apply W2_f2); (conv => lhs; simp only [go_sem]) <;> rfl; rfl) | refine W2_ret ?_ | refine W2_exit ?_ | refine W2_skip ?_ | refine W2_seq ?_ | refine W2_block ?_)
    ((with_reducible first | apply W2_scall | apply W2_scalld | apply W2_calla | apply W2_callda | apply run2a_sound); ((conv => lhs; simp only [go_sem, ibin, ishift, hg, hjl, cI]) <;> with_reducible rfl))
    refine CK_call [0, 2, 3] (none_spec c t x) (by decide) (by simp) rfl rfl rfl ?_
    rintro v h' ⟨rfl, rfl⟩
    unfold Tab.h
    cases hb : t.bad x with
    | true =>
      ((with_reducible first | apply WO2_finw | apply WO2_fina); ((conv => lhs; simp only [go_sem, ibin, ishift]) <;> with_reducible rfl))
      (repeat' with_reducible first | refine thn2_nrm ?_ | refine thn2_ret ?_ | refine thn2_ex ?_ | refine blk2_nrm ?_ | refine blk2_ret ?_ | refine blk2_at ?_ | (refine blk2_ex ?_ ?_; decide) | refine W2_sas ?_ | refine W2_ss ?_ | refine W2_sret ?_ | refine W2_sexit ?_ | ((first | apply W2_sra | apply W2_srda | apply W2_runa | apply W2_runda); (conv => lhs; simp only [go_sem, ibin, ishift]) <;> rfl) | ((first | apply W2_sct | apply W2_t2); (conv => lhs; simp only [go_sem]) <;> rfl; rfl) | ((first | apply W2_scf | apply W2_f2); (conv => lhs; simp only [go_sem]) <;> rfl; rfl) | refine W2_ret ?_ | refine W2_exit ?_ | refine W2_skip ?_ | refine W2_seq ?_ | refine W2_block ?_)
      refine ⟨by first | exact .inr rfl | exact .inl rfl, _, _, (by (conv => lhs; simp only [go_sem, ibin, ishift]) <;> with_reducible rfl), (by (conv => lhs; simp only [go_sem, ibin, ishift]) <;> with_reducible rfl), ?_⟩
      refine ⟨[0, 1, 2, 3], by decide, rfl, ?_⟩
      refine ⟨⟨j, rfl, ?_⟩, rfl⟩
      rw [List.any_eq_true.2 ⟨x, hm, hb⟩]
      exact decide_eq_true (by omega)
    | false =>
      ((with_reducible first | apply WO2_finw | apply WO2_fina); ((conv => lhs; simp only [go_sem, ibin, ishift]) <;> with_reducible rfl))
      (repeat' with_reducible first | refine thn2_nrm ?_ | refine thn2_ret ?_ | refine thn2_ex ?_ | refine blk2_nrm ?_ | refine blk2_ret ?_ | refine blk2_at ?_ | (refine blk2_ex ?_ ?_; decide) | refine W2_sas ?_ | refine W2_ss ?_ | refine W2_sret ?_ | refine W2_sexit ?_ | ((first | apply W2_sra | apply W2_srda | apply W2_runa | apply W2_runda); (conv => lhs; simp only [go_sem, ibin, ishift, wS (show j < 9223372036854775807 by omega)]) <;> rfl) | ((first | apply W2_sct | apply W2_t2); (conv => lhs; simp only [go_sem]) <;> rfl; rfl) | ((first | apply W2_scf | apply W2_f2); (conv => lhs; simp only [go_sem]) <;> rfl; rfl) | refine W2_ret ?_ | refine W2_exit ?_ | refine W2_skip ?_ | refine W2_seq ?_ | refine W2_block ?_)
      refine ⟨[0, 1, 2, 3], by decide, rfl, ?_⟩
      exact ⟨l.length - (j + 1), by omega, j + 1, by omega, by rw [htk, List.any_append, hno]; simp [hb], rfl, rfl⟩
  · have : j = l.length := by omega
    subst this
    rw [List.take_length] at hno
    (repeat' with_reducible first | refine thn2_nrm ?_ | refine thn2_ret ?_ | refine thn2_ex ?_ | refine blk2_nrm ?_ | refine blk2_ret ?_ | refine blk2_at ?_ | (refine blk2_ex ?_ ?_; decide) | refine W2_sas ?_ | refine W2_ss ?_ | refine W2_sret ?_ | refine W2_sexit ?_ | ((first | apply W2_sra | apply W2_srda | apply W2_runa | apply W2_runda); (conv => lhs; simp only [go_sem, ibin, ishift]) <;> rfl) | ((first | apply W2_sct | apply W2_t2); (conv => lhs; simp only [go_sem]) <;> rfl; rfl) | ((first | apply W2_scf | apply W2_f2); (conv => lhs; simp only [go_sem]) <;> rfl; rfl) | refine W2_ret ?_ | refine W2_exit ?_ | refine W2_skip ?_ | refine W2_seq ?_ | refine W2_block ?_)
    refine ⟨by first | exact .inr rfl | exact .inl rfl, _, _, (by (conv => lhs; simp only [go_sem, ibin, ishift]) <;> with_reducible rfl), (by (conv => lhs; simp only [go_sem, ibin, ishift]) <;> with_reducible rfl), ?_⟩
    refine ⟨[0, 1, 2, 3], by decide, rfl, ?_⟩
    exact ⟨⟨-1, rfl, by rw [hno]; rfl⟩, rfl⟩
theorem contains_m (c : TabC1 T) (t : Tab) (l : List Int) (hl : l.length ≤ 1000000000) : Ret2 T 4 i_slices_ContainsFunc_int_int [.sl 1 1 0 l.length none, .fn i_claim_Table_none [.ptr 0 0] []] (t.hl l) (fun v h' => v = .b (l.any t.bad) ∧ h' = t.hl l) := by
  refine Ret2_fnv c.contains rfl rfl ?_
  (repeat' with_reducible first | refine thn2_nrm ?_ | refine thn2_ret ?_ | refine thn2_ex ?_ | refine blk2_nrm ?_ | refine blk2_ret ?_ | refine blk2_at ?_ | (refine blk2_ex ?_ ?_; decide) | refine W2_sas ?_ | refine W2_ss ?_ | refine W2_sret ?_ | refine W2_sexit ?_ | ((first | apply W2_sra | apply W2_srda | apply W2_runa | apply W2_runda); (conv => lhs; simp only [go_sem, ibin, ishift]) <;> rfl) | ((first | apply W2_sct | apply W2_t2); (conv => lhs; simp only [go_sem]) <;> rfl; rfl) | ((first | apply W2_scf | apply W2_f2); (conv => lhs; simp only [go_sem]) <;> rfl; rfl) | refine W2_ret ?_ | refine W2_exit ?_ | refine W2_skip ?_ | refine W2_seq ?_ | refine W2_block ?_)
  ((with_reducible first | apply W2_scall | apply W2_scalld | apply W2_calla | apply W2_callda | apply run2a_sound); ((conv => lhs; simp only [go_sem, ibin, ishift]) <;> with_reducible rfl))
  refine CK_call [0, 1, 2, 3] (index_m c t l hl) (by decide) inTl4 rfl rfl rfl ?_
  rintro v h' ⟨⟨r, rfl, hr⟩, rfl⟩
  ((with_reducible first | apply WO2_finw | apply WO2_fina); ((conv => lhs; simp only [go_sem, ibin, ishift, hr]) <;> with_reducible rfl))
  (repeat' with_reducible first | refine thn2_nrm ?_ | refine thn2_ret ?_ | refine thn2_ex ?_ | refine blk2_nrm ?_ | refine blk2_ret ?_ | refine blk2_at ?_ | (refine blk2_ex ?_ ?_; decide) | refine W2_sas ?_ | refine W2_ss ?_ | refine W2_sret ?_ | refine W2_sexit ?_ | ((first | apply W2_sra | apply W2_srda | apply W2_runa | apply W2_runda); (conv => lhs; simp only [go_sem, ibin, ishift]) <;> rfl) | ((first | apply W2_sct | apply W2_t2); (conv => lhs; simp only [go_sem]) <;> rfl; rfl) | ((first | apply W2_scf | apply W2_f2); (conv => lhs; simp only [go_sem]) <;> rfl; rfl) | refine W2_ret ?_ | refine W2_exit ?_ | refine W2_skip ?_ | refine W2_seq ?_ | refine W2_block ?_)
  refine ⟨by first | exact .inr rfl | exact .inl rfl, _, _, (by (conv => lhs; simp only [go_sem, ibin, ishift]) <;> with_reducible rfl), (by (conv => lhs; simp only [go_sem, ibin, ishift]) <;> with_reducible rfl), ?_⟩
  refine ⟨[0, 1, 2, 3], by decide, rfl, ?_⟩
  exact ⟨rfl, rfl⟩
theorem outside_m (c : TabC1 T) (t : Tab) (tote : Int) (l : List Int) (hl : l.length ≤ 1000000000) : Ret2 T 4 i_claim_Table_outside [.ptr 0 0, .i .i64 tote, .sl 1 1 0 l.length none] (t.hl l) (fun v h' => v = .b (t.out tote l) ∧ h' = t.hl l) := by
  refine Ret2_fnv c.outside rfl rfl ?_
  by_cases h1 : tote < 1
  · have e1 : decide (tote < 1) = true := decide_eq_true h1
    (repeat' with_reducible first | refine thn2_nrm ?_ | refine thn2_ret ?_ | refine thn2_ex ?_ | refine blk2_nrm ?_ | refine blk2_ret ?_ | refine blk2_at ?_ | (refine blk2_ex ?_ ?_; decide) | refine W2_sas ?_ | refine W2_ss ?_ | refine W2_sret ?_ | refine W2_sexit ?_ | ((first | apply W2_sra | apply W2_srda | apply W2_runa | apply W2_runda); (conv => lhs; simp only [go_sem, ibin, ishift, e1]) <;> rfl) | ((first | apply W2_sct | apply W2_t2); (conv => lhs; simp only [go_sem]) <;> rfl; rfl) | ((first | apply W2_scf | apply W2_f2); (conv => lhs; simp only [go_sem]) <;> rfl; rfl) | refine W2_ret ?_ | refine W2_exit ?_ | refine W2_skip ?_ | refine W2_seq ?_ | refine W2_block ?_)
    refine ⟨by first | exact .inr rfl | exact .inl rfl, _, _, (by (conv => lhs; simp only [go_sem, ibin, ishift]) <;> with_reducible rfl), (by (conv => lhs; simp only [go_sem, ibin, ishift]) <;> with_reducible rfl), ?_⟩
    refine ⟨[0, 1, 2, 3], by decide, rfl, ?_⟩
    exact ⟨by simp [Tab.out, e1]; rfl, rfl⟩
  have e1 : decide (tote < 1) = false := decide_eq_false h1
  by_cases h2 : tote > 30
  · have e2 : decide (tote > 30) = true := decide_eq_true h2
    (repeat' with_reducible first | refine thn2_nrm ?_ | refine thn2_ret ?_ | refine thn2_ex ?_ | refine blk2_nrm ?_ | refine blk2_ret ?_ | refine blk2_at ?_ | (refine blk2_ex ?_ ?_; decide) | refine W2_sas ?_ | refine W2_ss ?_ | refine W2_sret ?_ | refine W2_sexit ?_ | ((first | apply W2_sra | apply W2_srda | apply W2_runa | apply W2_runda); (conv => lhs; simp only [go_sem, ibin, ishift, e1, e2]) <;> rfl) | ((first | apply W2_sct | apply W2_t2); (conv => lhs; simp only [go_sem]) <;> rfl; rfl) | ((first | apply W2_scf | apply W2_f2); (conv => lhs; simp only [go_sem]) <;> rfl; rfl) | refine W2_ret ?_ | refine W2_exit ?_ | refine W2_skip ?_ | refine W2_seq ?_ | refine W2_block ?_)
    refine ⟨by first | exact .inr rfl | exact .inl rfl, _, _, (by (conv => lhs; simp only [go_sem, ibin, ishift]) <;> with_reducible rfl), (by (conv => lhs; simp only [go_sem, ibin, ishift]) <;> with_reducible rfl), ?_⟩
    refine ⟨[0, 1, 2, 3], by decide, rfl, ?_⟩
    exact ⟨by simp [Tab.out, h2]; rfl, rfl⟩
  have e2 : decide (tote > 30) = false := decide_eq_false h2
  (repeat' with_reducible first | refine thn2_nrm ?_ | refine thn2_ret ?_ | refine thn2_ex ?_ | refine blk2_nrm ?_ | refine blk2_ret ?_ | refine blk2_at ?_ | (refine blk2_ex ?_ ?_; decide) | refine W2_sas ?_ | refine W2_ss ?_ | refine W2_sret ?_ | refine W2_sexit ?_ | ((first | apply W2_sra | apply W2_srda | apply W2_runa | apply W2_runda); (conv => lhs; simp only [go_sem, ibin, ishift, e1, e2]) <;> rfl) | ((first | apply W2_sct | apply W2_t2); (conv => lhs; simp only [go_sem]) <;> rfl; rfl) | ((first | apply W2_scf | apply W2_f2); (conv => lhs; simp only [go_sem]) <;> rfl; rfl) | refine W2_ret ?_ | refine W2_exit ?_ | refine W2_skip ?_ | refine W2_seq ?_ | refine W2_block ?_)
  ((with_reducible first | apply W2_scall | apply W2_scalld | apply W2_calla | apply W2_callda | apply run2a_sound); ((conv => lhs; simp only [go_sem, ibin, ishift, e1, e2]) <;> with_reducible rfl))
  refine CK_call [0, 1, 2, 3] (contains_m c t l hl) (by decide) inTl4 rfl rfl rfl ?_
  rintro v h' ⟨rfl, rfl⟩
  ((with_reducible first | apply WO2_finw | apply WO2_fina); ((conv => lhs; simp only [go_sem, ibin, ishift]) <;> with_reducible rfl))
  (repeat' with_reducible first | refine thn2_nrm ?_ | refine thn2_ret ?_ | refine thn2_ex ?_ | refine blk2_nrm ?_ | refine blk2_ret ?_ | refine blk2_at ?_ | (refine blk2_ex ?_ ?_; decide) | refine W2_sas ?_ | refine W2_ss ?_ | refine W2_sret ?_ | refine W2_sexit ?_ | ((first | apply W2_sra | apply W2_srda | apply W2_runa | apply W2_runda); (conv => lhs; simp only [go_sem, ibin, ishift]) <;> rfl) | ((first | apply W2_sct | apply W2_t2); (conv => lhs; simp only [go_sem]) <;> rfl; rfl) | ((first | apply W2_scf | apply W2_f2); (conv => lhs; simp only [go_sem]) <;> rfl; rfl) | refine W2_ret ?_ | refine W2_exit ?_ | refine W2_skip ?_ | refine W2_seq ?_ | refine W2_block ?_)
  refine ⟨by first | exact .inr rfl | exact .inl rfl, _, _, (by (conv => lhs; simp only [go_sem, ibin, ishift]) <;> with_reducible rfl), (by (conv => lhs; simp only [go_sem, ibin, ishift]) <;> with_reducible rfl), ?_⟩
  refine ⟨[0, 1, 2, 3], by decide, rfl, ?_⟩
  exact ⟨by simp [Tab.out, h1, h2]; rfl, rfl⟩
theorem clone_m (c : TabC3 T) (x : Int) (l : List Int) (hl : l.length ≤ 1000000) : Ret2 T 1 i_slices_Clone_int_int [.sl 1 0 0 (x :: l).length none] [some (.arr 1 ((x :: l).map cI))] (fun v h' => v = .sl 1 1 0 (x :: l).length none ∧ h' = [some (.arr 1 ((x :: l).map cI)), some (.arr 1 ((x :: l).map cI))]) := by
  refine Ret2_fnv c.clone rfl rfl ?_
  have hroom : (l.length + 1) * 8 ≤ room := by simp only [room]; omega
  (repeat' with_reducible first | refine thn2_nrm ?_ | refine thn2_ret ?_ | refine thn2_ex ?_ | refine blk2_nrm ?_ | refine blk2_ret ?_ | refine blk2_at ?_ | (refine blk2_ex ?_ ?_; decide) | refine W2_sas ?_ | refine W2_ss ?_ | refine W2_sret ?_ | refine W2_sexit ?_ | ((first | apply W2_sra | apply W2_srda | apply W2_runa | apply W2_runda); (conv => lhs; simp only [go_sem, ibin, ishift, hroom]) <;> rfl) | ((first | apply W2_sct | apply W2_t2); (conv => lhs; simp only [go_sem]) <;> rfl; rfl) | ((first | apply W2_scf | apply W2_f2); (conv => lhs; simp only [go_sem]) <;> rfl; rfl) | refine W2_ret ?_ | refine W2_exit ?_ | refine W2_skip ?_ | refine W2_seq ?_ | refine W2_block ?_)
  refine ⟨by first | exact .inr rfl | exact .inl rfl, _, _, (by (conv => lhs; simp only [go_sem, ibin, ishift]) <;> with_reducible rfl), (by (conv => lhs; simp only [go_sem, ibin, ishift]) <;> with_reducible rfl), ?_⟩
  refine ⟨[0, 2], by decide, rfl, ?_⟩
  exact ⟨rfl, rfl⟩
theorem claim_m (c : TabC5 T) (t : Tab) (hk : t.Ok) (hl : t.q.length < 1000000) (tote : Int) (ns : List Int) (hn : ns.length ≤ 1000000) : Ret2 T 2 i_claim_Table_Claim [.ptr 0 0, .i .i64 tote, .sl 1 1 0 ns.length none] (t.hl ns)
    (fun v h' => v = .tup [.b (t.put tote ns).2.1, .i .i64 (t.put tote ns).2.2] ∧ h' = (t.put tote ns).1.hl ns) := by
  refine Ret2_fnv c.claim rfl rfl ?_
  unfold Tab.hl
  (repeat' with_reducible first | refine thn2_nrm ?_ | refine thn2_ret ?_ | refine thn2_ex ?_ | refine blk2_nrm ?_ | refine blk2_ret ?_ | refine blk2_at ?_ | (refine blk2_ex ?_ ?_; decide) | refine W2_sas ?_ | refine W2_ss ?_ | refine W2_sret ?_ | refine W2_sexit ?_ | ((first | apply W2_sra | apply W2_srda | apply W2_runa | apply W2_runda); (conv => lhs; simp only [go_sem, ibin, ishift]) <;> rfl) | ((first | apply W2_sct | apply W2_t2); (conv => lhs; simp only [go_sem]) <;> rfl; rfl) | ((first | apply W2_scf | apply W2_f2); (conv => lhs; simp only [go_sem]) <;> rfl; rfl) | refine W2_ret ?_ | refine W2_exit ?_ | refine W2_skip ?_ | refine W2_seq ?_ | refine W2_block ?_)
  ((with_reducible first | apply W2_scall | apply W2_scalld | apply W2_calla | apply W2_callda | apply run2a_sound); ((conv => lhs; simp only [go_sem, ibin, ishift]) <;> with_reducible rfl))
  refine CK_call [0, 1, 2, 3] (outside_m c.toTabC1 t tote ns (by omega)) (by decide) (by simp) rfl rfl rfl ?_
  rintro v h' ⟨rfl, rfl⟩
  unfold Tab.hl
  by_cases hbad : t.out tote ns = true ∨ ns = []
  · have he : t.put tote ns = (t, false, 1) := by rw [Tab.put, if_pos hbad]
    have hd : (t.out tote ns || decide ((ns.length : Int) = 0)) = true := by
      rcases hbad with h | h
      · rw [h]; rfl
      · subst h; simp
    ((with_reducible first | apply WO2_finw | apply WO2_fina); ((conv => lhs; simp only [go_sem, ibin, ishift, hd]) <;> with_reducible rfl))
    (repeat' with_reducible first | refine thn2_nrm ?_ | refine thn2_ret ?_ | refine thn2_ex ?_ | refine blk2_nrm ?_ | refine blk2_ret ?_ | refine blk2_at ?_ | (refine blk2_ex ?_ ?_; decide) | refine W2_sas ?_ | refine W2_ss ?_ | refine W2_sret ?_ | refine W2_sexit ?_ | ((first | apply W2_sra | apply W2_srda | apply W2_runa | apply W2_runda); (conv => lhs; simp only [go_sem, ibin, ishift]) <;> rfl) | ((first | apply W2_sct | apply W2_t2); (conv => lhs; simp only [go_sem]) <;> rfl; rfl) | ((first | apply W2_scf | apply W2_f2); (conv => lhs; simp only [go_sem]) <;> rfl; rfl) | refine W2_ret ?_ | refine W2_exit ?_ | refine W2_skip ?_ | refine W2_seq ?_ | refine W2_block ?_)
    refine ⟨by first | exact .inr rfl | exact .inl rfl, _, _, (by (conv => lhs; simp only [go_sem, ibin, ishift]) <;> with_reducible rfl), (by (conv => lhs; simp only [go_sem, ibin, ishift]) <;> with_reducible rfl), ?_⟩
    refine ⟨[0, 1, 2, 3], by decide, rfl, ?_⟩
    rw [he]
    exact ⟨rfl, rfl⟩
  · have ho : t.out tote ns = false := by
      cases h : t.out tote ns with
      | true => exact (hbad (.inl h)).elim
      | false => rfl
    have hne : ns ≠ [] := fun h => hbad (.inr h)
    have hln : 0 < ns.length := List.length_pos_iff.2 hne
    have hd : decide ((ns.length : Int) = 0) = false := decide_eq_false (by omega)
    rw [ho]
    ((with_reducible first | apply WO2_finw | apply WO2_fina); ((conv => lhs; simp only [go_sem, ibin, ishift, hd]) <;> with_reducible rfl))
    (repeat' with_reducible first | refine thn2_nrm ?_ | refine thn2_ret ?_ | refine thn2_ex ?_ | refine blk2_nrm ?_ | refine blk2_ret ?_ | refine blk2_at ?_ | (refine blk2_ex ?_ ?_; decide) | refine W2_sas ?_ | refine W2_ss ?_ | refine W2_sret ?_ | refine W2_sexit ?_ | ((first | apply W2_sra | apply W2_srda | apply W2_runa | apply W2_runda); (conv => lhs; simp only [go_sem, ibin, ishift]) <;> rfl) | ((first | apply W2_sct | apply W2_t2); (conv => lhs; simp only [go_sem]) <;> rfl; rfl) | ((first | apply W2_scf | apply W2_f2); (conv => lhs; simp only [go_sem]) <;> rfl; rfl) | refine W2_ret ?_ | refine W2_exit ?_ | refine W2_skip ?_ | refine W2_seq ?_ | refine W2_block ?_)
    ((with_reducible first | apply W2_scall | apply W2_scalld | apply W2_calla | apply W2_callda | apply run2a_sound); ((conv => lhs; simp only [go_sem, ibin, ishift]) <;> with_reducible rfl))
    refine CK_call [0, 2, 3] (find_spec c.toTabC2 t tote (by omega)) (by decide) (by simp) rfl rfl rfl ?_
    rintro v h' ⟨rfl, rfl⟩
    unfold Tab.h
    cases hf : qfind t.q tote with
    | some i =>
      have he : t.put tote ns = (t, false, 2) := by rw [Tab.put, if_neg hbad, hf]
      have hd : decide ((i : Int) ≥ 0) = true := decide_eq_true (by omega)
      ((with_reducible first | apply WO2_finw | apply WO2_fina); ((conv => lhs; simp only [go_sem, ibin, ishift, posZ, hd]) <;> with_reducible rfl))
      (repeat' with_reducible first | refine thn2_nrm ?_ | refine thn2_ret ?_ | refine thn2_ex ?_ | refine blk2_nrm ?_ | refine blk2_ret ?_ | refine blk2_at ?_ | (refine blk2_ex ?_ ?_; decide) | refine W2_sas ?_ | refine W2_ss ?_ | refine W2_sret ?_ | refine W2_sexit ?_ | ((first | apply W2_sra | apply W2_srda | apply W2_runa | apply W2_runda); (conv => lhs; simp only [go_sem, ibin, ishift]) <;> rfl) | ((first | apply W2_sct | apply W2_t2); (conv => lhs; simp only [go_sem]) <;> rfl; rfl) | ((first | apply W2_scf | apply W2_f2); (conv => lhs; simp only [go_sem]) <;> rfl; rfl) | refine W2_ret ?_ | refine W2_exit ?_ | refine W2_skip ?_ | refine W2_seq ?_ | refine W2_block ?_)
      refine ⟨by first | exact .inr rfl | exact .inl rfl, _, _, (by (conv => lhs; simp only [go_sem, ibin, ishift]) <;> with_reducible rfl), (by (conv => lhs; simp only [go_sem, ibin, ishift]) <;> with_reducible rfl), ?_⟩
      refine ⟨[0, 1, 2, 3], by decide, rfl, ?_⟩
      rw [he]
      exact ⟨rfl, rfl⟩
    | none =>
      have he : t.put tote ns = ((Tab.g ⟨t.hold, t.q ++ [⟨tote, ns⟩]⟩).1, decide (0 < (Tab.g ⟨t.hold, t.q ++ [⟨tote, ns⟩]⟩).2.length), 0) := by rw [Tab.put, if_neg hbad, hf]
      obtain ⟨o1, o2, o3⟩ := out_in ho
      have hm : decide ((-1 : Int) ≥ 0) = false := by decide
      ((with_reducible first | apply WO2_finw | apply WO2_fina); ((conv => lhs; simp only [go_sem, ibin, ishift, posZ, hm]) <;> with_reducible rfl))
      (repeat' with_reducible first | refine thn2_nrm ?_ | refine thn2_ret ?_ | refine thn2_ex ?_ | refine blk2_nrm ?_ | refine blk2_ret ?_ | refine blk2_at ?_ | (refine blk2_ex ?_ ?_; decide) | refine W2_sas ?_ | refine W2_ss ?_ | refine W2_sret ?_ | refine W2_sexit ?_ | ((first | apply W2_sra | apply W2_srda | apply W2_runa | apply W2_runda); (conv => lhs; simp only [go_sem, ibin, ishift]) <;> rfl) | ((first | apply W2_sct | apply W2_t2); (conv => lhs; simp only [go_sem]) <;> rfl; rfl) | ((first | apply W2_scf | apply W2_f2); (conv => lhs; simp only [go_sem]) <;> rfl; rfl) | refine W2_ret ?_ | refine W2_exit ?_ | refine W2_skip ?_ | refine W2_seq ?_ | refine W2_block ?_)
      obtain ⟨x, l, rfl⟩ := List.exists_cons_of_ne_nil hne
      (with_reducible first | apply W2_sregG 0 [false, false, false, false, true, false, false, false, false, false, false] | apply W2_regG 0 [false, false, false, false, true, false, false, false, false, false, false])
      · decide
      · rfl
      · intro esz h; simp [bAt] at h
      ((conv => lhs; simp only [go_sem, ibin, ishift]) <;> with_reducible rfl)
      refine EG_call [1] (clone_m c.toTabC3 x l (by simp at hn; omega)) (by decide) (by simp) rfl rfl rfl rfl ?_
      rintro v h' ⟨rfl, rfl⟩
      refine WOG_frz 4 rfl (by decide) (by (conv => lhs; simp only [go_sem, ibin, ishift]) <;> with_reducible rfl) (by (conv => lhs; simp only [go_sem, ibin, ishift]) <;> with_reducible rfl) ?_
      have hroom : (t.q.length + 1) * 32 ≤ room := by simp only [room]; omega
      (with_reducible apply WOG_go; ((conv => lhs; simp only [go_sem, ibin, ishift, hroom]) <;> with_reducible rfl))
      refine EG_go ?_
      have hq : Tab.Ok ⟨t.hold, t.q ++ [⟨tote, x :: l⟩]⟩ := ⟨fun c hc => by
        rcases List.mem_append.1 hc with h | h
        · exact hk.q c h
        · rw [List.mem_singleton.1 h]; exact ⟨o3, hn⟩, hk.hl⟩
      have gs : Ret2 T 1 i_claim_Table_grants [.ptr 0 0] (⟨t.hold, t.q ++ [⟨tote, x :: l⟩]⟩ : Tab).h (fun v h' => v = .fz 1 ((Tab.g ⟨t.hold, t.q ++ [⟨tote, x :: l⟩]⟩).2.map cI) ∧ h' = (Tab.g ⟨t.hold, t.q ++ [⟨tote, x :: l⟩]⟩).1.h) := grants_spec c.toTabC4 _ hq (by simp; omega)
      generalize Tab.g ⟨t.hold, t.q ++ [⟨tote, x :: l⟩]⟩ = G at he gs
      rw [he]
      (repeat' with_reducible first | refine thn2_nrm ?_ | refine thn2_ret ?_ | refine thn2_ex ?_ | refine blk2_nrm ?_ | refine blk2_ret ?_ | refine blk2_at ?_ | (refine blk2_ex ?_ ?_; decide) | refine W2_sas ?_ | refine W2_ss ?_ | refine W2_sret ?_ | refine W2_sexit ?_ | ((first | apply W2_sra | apply W2_srda | apply W2_runa | apply W2_runda); (conv => lhs; simp only [go_sem, ibin, ishift]) <;> rfl) | ((first | apply W2_sct | apply W2_t2); (conv => lhs; simp only [go_sem]) <;> rfl; rfl) | ((first | apply W2_scf | apply W2_f2); (conv => lhs; simp only [go_sem]) <;> rfl; rfl) | refine W2_ret ?_ | refine W2_exit ?_ | refine W2_skip ?_ | refine W2_seq ?_ | refine W2_block ?_)
      ((with_reducible first | apply W2_scall | apply W2_scalld | apply W2_calla | apply W2_callda | apply run2a_sound); ((conv => lhs; simp only [go_sem, ibin, ishift]) <;> with_reducible rfl))
      refine CK_call [0, 2, 6] gs (by decide) (by simp) rfl rfl (by simp only [Tab.h, List.length_append, List.map_append]; rfl) ?_
      rintro v h' ⟨rfl, rfl⟩
      ((with_reducible first | apply WO2_finw | apply WO2_fina); ((conv => lhs; simp only [go_sem, ibin, ishift]) <;> with_reducible rfl))
      (repeat' with_reducible first | refine thn2_nrm ?_ | refine thn2_ret ?_ | refine thn2_ex ?_ | refine blk2_nrm ?_ | refine blk2_ret ?_ | refine blk2_at ?_ | (refine blk2_ex ?_ ?_; decide) | refine W2_sas ?_ | refine W2_ss ?_ | refine W2_sret ?_ | refine W2_sexit ?_ | ((first | apply W2_sra | apply W2_srda | apply W2_runa | apply W2_runda); (conv => lhs; simp only [go_sem, ibin, ishift]) <;> rfl) | ((first | apply W2_sct | apply W2_t2); (conv => lhs; simp only [go_sem]) <;> rfl; rfl) | ((first | apply W2_scf | apply W2_f2); (conv => lhs; simp only [go_sem]) <;> rfl; rfl) | refine W2_ret ?_ | refine W2_exit ?_ | refine W2_skip ?_ | refine W2_seq ?_ | refine W2_block ?_)
      refine ⟨by first | exact .inr rfl | exact .inl rfl, _, _, (by (conv => lhs; simp only [go_sem, ibin, ishift]) <;> with_reducible rfl), (by (conv => lhs; simp only [go_sem, ibin, ishift]) <;> with_reducible rfl), ?_⟩
      refine ⟨[0, 1, 2, 6], by decide, rfl, ?_⟩
      refine ⟨?_, rfl⟩
      have : decide ((G.2.length : Int) > 0) = decide (0 < G.2.length) := by congr 1; simp
      rw [this]; rfl
end Go.Proofs.Ytpgoemmjhnnmoaa.Ab
