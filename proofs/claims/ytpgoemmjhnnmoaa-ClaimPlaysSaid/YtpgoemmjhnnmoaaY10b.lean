/- Chapter 10: what is told of the table; what is taken out of it. -/
import Derived.Test.YtpgoemmjhnnmoaaY10a
namespace Go.Proofs.Ytpgoemmjhnnmoaa.Ab
open Go
set_option linter.unusedVariables false
set_option linter.unusedSimpArgs false
variable {T : AT}
structure TabC3 (T : AT) : Prop extends TabC2 T where
  holder : T i_claim_Table_Holder = some (.fn c_claim_Table_Holder)
  held : T i_claim_Table_Held = some (.fn c_claim_Table_Held)
  waiting : T i_claim_Table_Waiting = some (.fn c_claim_Table_Waiting)
  clone : T i_slices_Clone_int_int = some (.fn c_slices_Clone_int_int)
  delete : T i_slices_Delete_claim_waiter_claim_waiter = some (.fn c_slices_Delete_claim_waiter_claim_waiter)
  new : T i_claim_New = some (.fn c_claim_New)
def Tab.holder (t : Tab) (n : Int) : Int := if n < 0 then 0 else t.hold[n.toNat]?.getD 0
theorem holder_spec (c : TabC3 T) (t : Tab) (n : Int) : Ret2 T 3 i_claim_Table_Holder [.ptr 0 0, .i .i64 n] t.h (fun v h' => v = .i .i64 (t.holder n) ∧ h' = t.h) := by
  refine Ret2_fnv c.holder rfl rfl ?_
  unfold Tab.h
  by_cases h0 : n < 0
  · have e0 : decide (n < 0) = true := decide_eq_true h0
    (repeat' with_reducible first | refine thn2_nrm ?_ | refine thn2_ret ?_ | refine thn2_ex ?_ | refine blk2_nrm ?_ | refine blk2_ret ?_ | refine blk2_at ?_ | (refine blk2_ex ?_ ?_; decide) | refine W2_sas ?_ | refine W2_ss ?_ | refine W2_sret ?_ | refine W2_sexit ?_ | ((first | apply W2_sra | apply W2_srda | apply W2_runa | apply W2_runda); (conv => lhs; simp only [go_sem, ibin, ishift, e0]) <;> rfl) | ((first | apply W2_sct | apply W2_t2); (conv => lhs; simp only [go_sem]) <;> rfl; rfl) | ((first | apply W2_scf | apply W2_f2); (conv => lhs; simp only [go_sem]) <;> rfl; rfl) | refine W2_ret ?_ | refine W2_exit ?_ | refine W2_skip ?_ | refine W2_seq ?_ | refine W2_block ?_)
    refine ⟨by first | exact .inr rfl | exact .inl rfl, _, _, (by (conv => lhs; simp only [go_sem, ibin, ishift]) <;> with_reducible rfl), (by (conv => lhs; simp only [go_sem, ibin, ishift]) <;> with_reducible rfl), ?_⟩
    refine ⟨[0, 1, 2], by decide, rfl, ?_⟩
    rw [Tab.holder, if_pos h0]
    exact ⟨rfl, rfl⟩
  have e0 : decide (n < 0) = false := decide_eq_false h0
  obtain ⟨m, rfl⟩ := Int.eq_ofNat_of_zero_le (show 0 ≤ n by omega)
  by_cases h1 : m < t.hold.length
  · have e1 : decide ((m : Int) ≥ (t.hold.length : Int)) = false := decide_eq_false (by omega)
    have hg := List.getElem?_eq_getElem h1
    have hi : (m : Int) < (t.hold.length : Int) := by omega
    have h00 : (0 : Int) ≤ (m : Int) := by omega
    (repeat' with_reducible first | refine thn2_nrm ?_ | refine thn2_ret ?_ | refine thn2_ex ?_ | refine blk2_nrm ?_ | refine blk2_ret ?_ | refine blk2_at ?_ | (refine blk2_ex ?_ ?_; decide) | refine W2_sas ?_ | refine W2_ss ?_ | refine W2_sret ?_ | refine W2_sexit ?_ | ((first | apply W2_sra | apply W2_srda | apply W2_runa | apply W2_runda); (conv => lhs; simp only [go_sem, ibin, ishift, e0, e1, hg, hi, h1, h00, cI]) <;> rfl) | ((first | apply W2_sct | apply W2_t2); (conv => lhs; simp only [go_sem]) <;> rfl; rfl) | ((first | apply W2_scf | apply W2_f2); (conv => lhs; simp only [go_sem]) <;> rfl; rfl) | refine W2_ret ?_ | refine W2_exit ?_ | refine W2_skip ?_ | refine W2_seq ?_ | refine W2_block ?_)
    refine ⟨by first | exact .inr rfl | exact .inl rfl, _, _, (by (conv => lhs; simp only [go_sem, ibin, ishift]) <;> with_reducible rfl), (by (conv => lhs; simp only [go_sem, ibin, ishift]) <;> with_reducible rfl), ?_⟩
    refine ⟨[0, 1, 2], by decide, rfl, ?_⟩
    rw [Tab.holder, if_neg h0, Int.toNat_natCast, hg]
    exact ⟨rfl, rfl⟩
  · have e1 : decide ((m : Int) ≥ (t.hold.length : Int)) = true := decide_eq_true (by omega)
    (repeat' with_reducible first | refine thn2_nrm ?_ | refine thn2_ret ?_ | refine thn2_ex ?_ | refine blk2_nrm ?_ | refine blk2_ret ?_ | refine blk2_at ?_ | (refine blk2_ex ?_ ?_; decide) | refine W2_sas ?_ | refine W2_ss ?_ | refine W2_sret ?_ | refine W2_sexit ?_ | ((first | apply W2_sra | apply W2_srda | apply W2_runa | apply W2_runda); (conv => lhs; simp only [go_sem, ibin, ishift, e0, e1]) <;> rfl) | ((first | apply W2_sct | apply W2_t2); (conv => lhs; simp only [go_sem]) <;> rfl; rfl) | ((first | apply W2_scf | apply W2_f2); (conv => lhs; simp only [go_sem]) <;> rfl; rfl) | refine W2_ret ?_ | refine W2_exit ?_ | refine W2_skip ?_ | refine W2_seq ?_ | refine W2_block ?_)
    refine ⟨by first | exact .inr rfl | exact .inl rfl, _, _, (by (conv => lhs; simp only [go_sem, ibin, ishift]) <;> with_reducible rfl), (by (conv => lhs; simp only [go_sem, ibin, ishift]) <;> with_reducible rfl), ?_⟩
    refine ⟨[0, 1, 2], by decide, rfl, ?_⟩
    rw [Tab.holder, if_neg h0, Int.toNat_natCast, List.getElem?_eq_none (by omega)]
    exact ⟨rfl, rfl⟩
/-- the nodes from n on that a tote holds -/
def heldF (tote : Int) : Nat → List Int → List Int
  | _, [] => []
  | n, x :: r => if x = tote ∧ 0 < tote then (n : Int) :: heldF tote (n + 1) r else heldF tote (n + 1) r
theorem heldF_append (tote : Int) : ∀ (n : Nat) (l r : List Int), heldF tote n (l ++ r) = heldF tote n l ++ heldF tote (n + l.length) r
  | n, [], r => rfl
  | n, x :: l, r => by
    simp only [List.cons_append, heldF, heldF_append tote (n + 1) l r, List.length_cons]
    rw [show n + 1 + l.length = n + (l.length + 1) by omega]
    split <;> rfl
theorem heldF_len (tote : Int) : ∀ (n : Nat) (l : List Int), (heldF tote n l).length ≤ l.length
  | n, [] => by simp [heldF]
  | n, x :: l => by
    have := heldF_len tote (n + 1) l
    simp only [heldF, List.length_cons]
    split <;> (try simp only [List.length_cons]) <;> omega
def Tab.held (t : Tab) (tote : Int) : List Int := heldF tote 0 t.hold
theorem held_spec (c : TabC3 T) (t : Tab) (tote : Int) (hl : t.hold.length ≤ 1000000) : Ret2 T 3 i_claim_Table_Held [.ptr 0 0, .i .i64 tote] t.h (fun v h' => v = .fz 1 ((t.held tote).map cI) ∧ h' = t.h) := by
  refine Ret2_fnv c.held rfl rfl ?_
  unfold Tab.h
  refine W2_sra (by (conv => lhs; simp only [go_sem, ibin, ishift]) <;> with_reducible rfl) (W2_sra (by (conv => lhs; simp only [go_sem, ibin, ishift]) <;> with_reducible rfl) ?_)
  refine W2.wnil 5 1 rfl (by (conv => lhs; simp only [go_sem, ibin, ishift]) <;> with_reducible rfl) (by (conv => lhs; simp only [go_sem, ibin, ishift]) <;> with_reducible rfl) ?_
  (repeat' with_reducible first | refine thn2_nrm ?_ | refine thn2_ret ?_ | refine thn2_ex ?_ | refine blk2_nrm ?_ | refine blk2_ret ?_ | refine blk2_at ?_ | (refine blk2_ex ?_ ?_; decide) | refine W2_sas ?_ | refine W2_ss ?_ | refine W2_sret ?_ | refine W2_sexit ?_ | ((first | apply W2_sra | apply W2_srda | apply W2_runa | apply W2_runda); (conv => lhs; simp only [go_sem, ibin, ishift]) <;> rfl) | ((first | apply W2_sct | apply W2_t2); (conv => lhs; simp only [go_sem]) <;> rfl; rfl) | ((first | apply W2_scf | apply W2_f2); (conv => lhs; simp only [go_sem]) <;> rfl; rfl) | refine W2_ret ?_ | refine W2_exit ?_ | refine W2_skip ?_ | refine W2_seq ?_ | refine W2_block ?_)
  refine W2_loopv (fun m e h => ∃ j, j + m = t.hold.length ∧ e = [(1, .i .i64 tote), (5, .sl 1 3 0 (heldF tote 0 (t.hold.take j)).length none), (11, .sl 1 1 0 t.hold.length none), (12, .i .i64 t.hold.length), (13, .i .i64 j)] ∧ h = [some (.obj [.sl 1 1 0 t.hold.length none, .sl 2 2 0 t.q.length none]), some (.arr 1 (t.hold.map cI)), some (.arr 2 (t.q.map cQ)), some (.arr 1 ((heldF tote 0 (t.hold.take j)).map cI))]) t.hold.length ⟨0, by omega, rfl, rfl⟩ ?_
  rintro m e h ⟨j, hj, rfl, rfl⟩
  (repeat' with_reducible first | refine thn2_nrm ?_ | refine thn2_ret ?_ | refine thn2_ex ?_ | refine blk2_nrm ?_ | refine blk2_ret ?_ | refine blk2_at ?_ | (refine blk2_ex ?_ ?_; decide) | refine W2_sas ?_ | refine W2_ss ?_ | refine W2_sret ?_ | refine W2_sexit ?_ | ((first | apply W2_sra | apply W2_srda | apply W2_runa | apply W2_runda); (conv => lhs; simp only [go_sem, ibin, ishift]) <;> rfl) | ((first | apply W2_sct | apply W2_t2); (conv => lhs; simp only [go_sem]) <;> rfl; rfl) | ((first | apply W2_scf | apply W2_f2); (conv => lhs; simp only [go_sem]) <;> rfl; rfl) | refine W2_ret ?_ | refine W2_exit ?_ | refine W2_skip ?_ | refine W2_seq ?_ | refine W2_block ?_)
  (((first | with_reducible apply W2_sc | with_reducible apply W2_cond); ((conv => lhs; simp only [go_sem]) <;> with_reducible rfl)) <;> intro hx <;> (try rw [hx]) <;> simp only [Bool.or_eq_true, Bool.and_eq_true, decide_eq_true_eq, Bool.or_eq_false_iff, Bool.and_eq_false_iff, decide_eq_false_iff_not, Bool.not_eq_true', Bool.not_eq_false', bne_iff_ne, beq_iff_eq, not_or, not_and, Decidable.not_not, ne_eq, gt_iff_lt, ge_iff_le, Int.not_lt, Int.not_le] at hx)
  · have hjl : j < t.hold.length := by omega
    have hg := List.getElem?_eq_getElem hjl
    have htk : t.hold.take (j + 1) = t.hold.take j ++ [t.hold[j]] := by rw [List.take_add_one, List.getElem?_eq_getElem hjl]; rfl
    have hlen := heldF_len tote 0 (t.hold.take j)
    have htl : (t.hold.take j).length = j := by simp; omega
    have hs : heldF tote 0 (t.hold.take (j + 1)) = heldF tote 0 (t.hold.take j) ++ heldF tote j [t.hold[j]] := by rw [htk, heldF_append, htl, Nat.zero_add]
    have hroom : ((heldF tote 0 (t.hold.take j)).length + 1) * 8 ≤ room := by simp only [room]; omega
    generalize t.hold[j] = x at hg htk hs
    have hw := wS (show j < 9223372036854775807 by omega)
    (repeat' with_reducible first | refine thn2_nrm ?_ | refine thn2_ret ?_ | refine thn2_ex ?_ | refine blk2_nrm ?_ | refine blk2_ret ?_ | refine blk2_at ?_ | (refine blk2_ex ?_ ?_; decide) | refine W2_sas ?_ | refine W2_ss ?_ | refine W2_sret ?_ | refine W2_sexit ?_ | ((first | apply W2_sra | apply W2_srda | apply W2_runa | apply W2_runda); (conv => lhs; simp only [go_sem, ibin, ishift, hg, hjl, cI]) <;> rfl) | ((first | apply W2_sct | apply W2_t2); (conv => lhs; simp only [go_sem]) <;> rfl; rfl) | ((first | apply W2_scf | apply W2_f2); (conv => lhs; simp only [go_sem]) <;> rfl; rfl) | refine W2_ret ?_ | refine W2_exit ?_ | refine W2_skip ?_ | refine W2_seq ?_ | refine W2_block ?_)
    (((first | with_reducible apply W2_sc | with_reducible apply W2_cond); ((conv => lhs; simp only [go_sem]) <;> with_reducible rfl)) <;> intro hx <;> (try rw [hx]) <;> simp only [Bool.or_eq_true, Bool.and_eq_true, decide_eq_true_eq, Bool.or_eq_false_iff, Bool.and_eq_false_iff, decide_eq_false_iff_not, Bool.not_eq_true', Bool.not_eq_false', bne_iff_ne, beq_iff_eq, not_or, not_and, Decidable.not_not, ne_eq, gt_iff_lt, ge_iff_le, Int.not_lt, Int.not_le] at hx)
    · have hf : heldF tote j [x] = [(j : Int)] := by simp only [heldF]; rw [if_pos (by omega)]
      rw [hf] at hs
      (repeat' with_reducible first | refine thn2_nrm ?_ | refine thn2_ret ?_ | refine thn2_ex ?_ | refine blk2_nrm ?_ | refine blk2_ret ?_ | refine blk2_at ?_ | (refine blk2_ex ?_ ?_; decide) | refine W2_sas ?_ | refine W2_ss ?_ | refine W2_sret ?_ | refine W2_sexit ?_ | ((first | apply W2_sra | apply W2_srda | apply W2_runa | apply W2_runda); (conv => lhs; simp only [go_sem, ibin, ishift, hroom, hw]) <;> rfl) | ((first | apply W2_sct | apply W2_t2); (conv => lhs; simp only [go_sem]) <;> rfl; rfl) | ((first | apply W2_scf | apply W2_f2); (conv => lhs; simp only [go_sem]) <;> rfl; rfl) | refine W2_ret ?_ | refine W2_exit ?_ | refine W2_skip ?_ | refine W2_seq ?_ | refine W2_block ?_)
      refine ⟨[0, 1, 2, 5], by decide, rfl, ?_⟩
      exact ⟨t.hold.length - (j + 1), by omega, j + 1, by omega, (by rw [hs, List.length_append]; first | rfl | ((conv => lhs; simp only [go_sem, ibin, ishift]) <;> rfl)), (by rw [hs, List.map_append]; first | rfl | ((conv => lhs; simp only [go_sem, ibin, ishift]) <;> rfl))⟩
    · have hf : heldF tote j [x] = [] := by simp only [heldF]; rw [if_neg (by omega)]
      rw [hf, List.append_nil] at hs
      (repeat' with_reducible first | refine thn2_nrm ?_ | refine thn2_ret ?_ | refine thn2_ex ?_ | refine blk2_nrm ?_ | refine blk2_ret ?_ | refine blk2_at ?_ | (refine blk2_ex ?_ ?_; decide) | refine W2_sas ?_ | refine W2_ss ?_ | refine W2_sret ?_ | refine W2_sexit ?_ | ((first | apply W2_sra | apply W2_srda | apply W2_runa | apply W2_runda); (conv => lhs; simp only [go_sem, ibin, ishift, hw]) <;> rfl) | ((first | apply W2_sct | apply W2_t2); (conv => lhs; simp only [go_sem]) <;> rfl; rfl) | ((first | apply W2_scf | apply W2_f2); (conv => lhs; simp only [go_sem]) <;> rfl; rfl) | refine W2_ret ?_ | refine W2_exit ?_ | refine W2_skip ?_ | refine W2_seq ?_ | refine W2_block ?_)
      refine ⟨[0, 1, 2, 3], by decide, rfl, ?_⟩
      exact ⟨t.hold.length - (j + 1), by omega, j + 1, by omega, (by rw [hs]; first | rfl | ((conv => lhs; simp only [go_sem, ibin, ishift]) <;> rfl)), (by rw [hs]; first | rfl | ((conv => lhs; simp only [go_sem, ibin, ishift]) <;> rfl))⟩
  · have : j = t.hold.length := by omega
    subst this
    rw [List.take_length]
    refine W2.wfrz 3 rfl (by (conv => lhs; simp only [go_sem, ibin, ishift]) <;> with_reducible rfl) (by (conv => lhs; simp only [go_sem, ibin, ishift]) <;> with_reducible rfl) ?_
    (repeat' with_reducible first | refine thn2_nrm ?_ | refine thn2_ret ?_ | refine thn2_ex ?_ | refine blk2_nrm ?_ | refine blk2_ret ?_ | refine blk2_at ?_ | (refine blk2_ex ?_ ?_; decide) | refine W2_sas ?_ | refine W2_ss ?_ | refine W2_sret ?_ | refine W2_sexit ?_ | ((first | apply W2_sra | apply W2_srda | apply W2_runa | apply W2_runda); (conv => lhs; simp only [go_sem, ibin, ishift]) <;> rfl) | ((first | apply W2_sct | apply W2_t2); (conv => lhs; simp only [go_sem]) <;> rfl; rfl) | ((first | apply W2_scf | apply W2_f2); (conv => lhs; simp only [go_sem]) <;> rfl; rfl) | refine W2_ret ?_ | refine W2_exit ?_ | refine W2_skip ?_ | refine W2_seq ?_ | refine W2_block ?_)
    refine ⟨by first | exact .inr rfl | exact .inl rfl, _, _, (by (conv => lhs; simp only [go_sem, ibin, ishift]) <;> with_reducible rfl), (by (conv => lhs; simp only [go_sem, ibin, ishift]) <;> with_reducible rfl), ?_⟩
    refine ⟨[0, 1, 2], by decide, rfl, ?_⟩
    exact ⟨rfl, rfl⟩
theorem waiting_spec (c : TabC3 T) (t : Tab) (hl : t.q.length ≤ 1000000) : Ret2 T 3 i_claim_Table_Waiting [.ptr 0 0] t.h (fun v h' => v = .fz 1 ((t.q.map Clm.t).map cI) ∧ h' = t.h) := by
  refine Ret2_fnv c.waiting rfl rfl ?_
  unfold Tab.h
  refine W2_sra (by (conv => lhs; simp only [go_sem, ibin, ishift]) <;> with_reducible rfl) (W2_sra (by (conv => lhs; simp only [go_sem, ibin, ishift]) <;> with_reducible rfl) ?_)
  refine W2.wnil 3 1 rfl (by (conv => lhs; simp only [go_sem, ibin, ishift]) <;> with_reducible rfl) (by (conv => lhs; simp only [go_sem, ibin, ishift]) <;> with_reducible rfl) ?_
  (repeat' with_reducible first | refine thn2_nrm ?_ | refine thn2_ret ?_ | refine thn2_ex ?_ | refine blk2_nrm ?_ | refine blk2_ret ?_ | refine blk2_at ?_ | (refine blk2_ex ?_ ?_; decide) | refine W2_sas ?_ | refine W2_ss ?_ | refine W2_sret ?_ | refine W2_sexit ?_ | ((first | apply W2_sra | apply W2_srda | apply W2_runa | apply W2_runda); (conv => lhs; simp only [go_sem, ibin, ishift]) <;> rfl) | ((first | apply W2_sct | apply W2_t2); (conv => lhs; simp only [go_sem]) <;> rfl; rfl) | ((first | apply W2_scf | apply W2_f2); (conv => lhs; simp only [go_sem]) <;> rfl; rfl) | refine W2_ret ?_ | refine W2_exit ?_ | refine W2_skip ?_ | refine W2_seq ?_ | refine W2_block ?_)
  refine W2_loopv (fun m e h => ∃ j, j + m = t.q.length ∧ e = [(3, .sl 1 3 0 j none), (9, .sl 2 2 0 t.q.length none), (10, .i .i64 t.q.length), (11, .i .i64 j)] ∧ h = [some (.obj [.sl 1 1 0 t.hold.length none, .sl 2 2 0 t.q.length none]), some (.arr 1 (t.hold.map cI)), some (.arr 2 (t.q.map cQ)), some (.arr 1 (((t.q.take j).map Clm.t).map cI))]) t.q.length ⟨0, by omega, rfl, rfl⟩ ?_
  rintro m e h ⟨j, hj, rfl, rfl⟩
  (repeat' with_reducible first | refine thn2_nrm ?_ | refine thn2_ret ?_ | refine thn2_ex ?_ | refine blk2_nrm ?_ | refine blk2_ret ?_ | refine blk2_at ?_ | (refine blk2_ex ?_ ?_; decide) | refine W2_sas ?_ | refine W2_ss ?_ | refine W2_sret ?_ | refine W2_sexit ?_ | ((first | apply W2_sra | apply W2_srda | apply W2_runa | apply W2_runda); (conv => lhs; simp only [go_sem, ibin, ishift]) <;> rfl) | ((first | apply W2_sct | apply W2_t2); (conv => lhs; simp only [go_sem]) <;> rfl; rfl) | ((first | apply W2_scf | apply W2_f2); (conv => lhs; simp only [go_sem]) <;> rfl; rfl) | refine W2_ret ?_ | refine W2_exit ?_ | refine W2_skip ?_ | refine W2_seq ?_ | refine W2_block ?_)
  (((first | with_reducible apply W2_sc | with_reducible apply W2_cond); ((conv => lhs; simp only [go_sem]) <;> with_reducible rfl)) <;> intro hx <;> (try rw [hx]) <;> simp only [Bool.or_eq_true, Bool.and_eq_true, decide_eq_true_eq, Bool.or_eq_false_iff, Bool.and_eq_false_iff, decide_eq_false_iff_not, Bool.not_eq_true', Bool.not_eq_false', bne_iff_ne, beq_iff_eq, not_or, not_and, Decidable.not_not, ne_eq, gt_iff_lt, ge_iff_le, Int.not_lt, Int.not_le] at hx)
  · have hjl : j < t.q.length := by omega
    have hg := List.getElem?_eq_getElem hjl
    have htk : t.q.take (j + 1) = t.q.take j ++ [t.q[j]] := by rw [List.take_add_one, List.getElem?_eq_getElem hjl]; rfl
    have htl : (t.q.take j).length = j := by simp; omega
    have hroom : (j + 1) * 8 ≤ room := by simp only [room]; omega
    generalize t.q[j] = x at hg htk
    have hw := wS (show j < 9223372036854775807 by omega)
    have hta : (((t.q.take j).map Clm.t).map cI).take j = ((t.q.take j).map Clm.t).map cI := List.take_of_length_le (by simp; omega)
    (repeat' with_reducible first | refine thn2_nrm ?_ | refine thn2_ret ?_ | refine thn2_ex ?_ | refine blk2_nrm ?_ | refine blk2_ret ?_ | refine blk2_at ?_ | (refine blk2_ex ?_ ?_; decide) | refine W2_sas ?_ | refine W2_ss ?_ | refine W2_sret ?_ | refine W2_sexit ?_ | ((first | apply W2_sra | apply W2_srda | apply W2_runa | apply W2_runda); (conv => lhs; simp only [go_sem, ibin, ishift, hg, hjl, cQ, hroom, hw, htl, hta]) <;> rfl) | ((first | apply W2_sct | apply W2_t2); (conv => lhs; simp only [go_sem]) <;> rfl; rfl) | ((first | apply W2_scf | apply W2_f2); (conv => lhs; simp only [go_sem]) <;> rfl; rfl) | refine W2_ret ?_ | refine W2_exit ?_ | refine W2_skip ?_ | refine W2_seq ?_ | refine W2_block ?_)
    refine ⟨[0, 1, 2, 6], by decide, rfl, ?_⟩
    exact ⟨t.q.length - (j + 1), by omega, j + 1, by omega, rfl, (by rw [htk, List.map_append, List.map_append]; first | rfl | ((conv => lhs; simp only [go_sem, ibin, ishift]) <;> rfl))⟩
  · have : j = t.q.length := by omega
    subst this
    rw [List.take_length]
    refine W2.wfrz 3 rfl (by (conv => lhs; simp only [go_sem, ibin, ishift]) <;> with_reducible rfl) (by (conv => lhs; simp only [go_sem, ibin, ishift]) <;> with_reducible rfl) ?_
    (repeat' with_reducible first | refine thn2_nrm ?_ | refine thn2_ret ?_ | refine thn2_ex ?_ | refine blk2_nrm ?_ | refine blk2_ret ?_ | refine blk2_at ?_ | (refine blk2_ex ?_ ?_; decide) | refine W2_sas ?_ | refine W2_ss ?_ | refine W2_sret ?_ | refine W2_sexit ?_ | ((first | apply W2_sra | apply W2_srda | apply W2_runa | apply W2_runda); (conv => lhs; simp only [go_sem, ibin, ishift]) <;> rfl) | ((first | apply W2_sct | apply W2_t2); (conv => lhs; simp only [go_sem]) <;> rfl; rfl) | ((first | apply W2_scf | apply W2_f2); (conv => lhs; simp only [go_sem]) <;> rfl; rfl) | refine W2_ret ?_ | refine W2_exit ?_ | refine W2_skip ?_ | refine W2_seq ?_ | refine W2_block ?_)
    refine ⟨by first | exact .inr rfl | exact .inl rfl, _, _, (by (conv => lhs; simp only [go_sem, ibin, ishift]) <;> with_reducible rfl), (by (conv => lhs; simp only [go_sem, ibin, ishift]) <;> with_reducible rfl), ?_⟩
    refine ⟨[0, 1, 2], by decide, rfl, ?_⟩
    exact ⟨by simp [List.take_of_length_le]; rfl, rfl⟩
theorem clone_spec (c : TabC3 T) (x : Int) (l : List Int) (hl : l.length ≤ 1000000) : Ret2 T 0 i_slices_Clone_int_int [.fz 1 ((x :: l).map cI)] [] (fun v h' => v = .sl 1 0 0 (x :: l).length none ∧ h' = [some (.arr 1 ((x :: l).map cI))]) := by
  refine Ret2_fnv c.clone rfl rfl ?_
  have hroom : (l.length + 1) * 8 ≤ room := by simp only [room]; omega
  (repeat' with_reducible first | refine thn2_nrm ?_ | refine thn2_ret ?_ | refine thn2_ex ?_ | refine blk2_nrm ?_ | refine blk2_ret ?_ | refine blk2_at ?_ | (refine blk2_ex ?_ ?_; decide) | refine W2_sas ?_ | refine W2_ss ?_ | refine W2_sret ?_ | refine W2_sexit ?_ | ((first | apply W2_sra | apply W2_srda | apply W2_runa | apply W2_runda); (conv => lhs; simp only [go_sem, ibin, ishift, hroom]) <;> rfl) | ((first | apply W2_sct | apply W2_t2); (conv => lhs; simp only [go_sem]) <;> rfl; rfl) | ((first | apply W2_scf | apply W2_f2); (conv => lhs; simp only [go_sem]) <;> rfl; rfl) | refine W2_ret ?_ | refine W2_exit ?_ | refine W2_skip ?_ | refine W2_seq ?_ | refine W2_block ?_)
  refine ⟨by first | exact .inr rfl | exact .inl rfl, _, _, (by (conv => lhs; simp only [go_sem, ibin, ishift]) <;> with_reducible rfl), (by (conv => lhs; simp only [go_sem, ibin, ishift]) <;> with_reducible rfl), ?_⟩
  refine ⟨[1], by decide, rfl, ?_⟩
  exact ⟨rfl, rfl⟩
def emp (n : Nat) : Tab := ⟨List.replicate n 0, []⟩
theorem new_spec (c : TabC3 T) (n : Int) : Ret2 T 0 i_claim_New [.i .i64 n] [] (fun v h' => (n < 1 ∨ n > 40 → v = .tup [.nilp, .i .i64 1] ∧ h' = []) ∧ (1 ≤ n → n ≤ 40 → v = .tup [.ptr 0 0, .i .i64 0] ∧ h' = (emp n.toNat).h)) := by
  refine Ret2_fnv c.new rfl rfl ?_
  (repeat' with_reducible first | refine thn2_nrm ?_ | refine thn2_ret ?_ | refine thn2_ex ?_ | refine blk2_nrm ?_ | refine blk2_ret ?_ | refine blk2_at ?_ | (refine blk2_ex ?_ ?_; decide) | refine W2_sas ?_ | refine W2_ss ?_ | refine W2_sret ?_ | refine W2_sexit ?_ | ((first | apply W2_sra | apply W2_srda | apply W2_runa | apply W2_runda); (conv => lhs; simp only [go_sem, ibin, ishift]) <;> rfl) | ((first | apply W2_sct | apply W2_t2); (conv => lhs; simp only [go_sem]) <;> rfl; rfl) | ((first | apply W2_scf | apply W2_f2); (conv => lhs; simp only [go_sem]) <;> rfl; rfl) | refine W2_ret ?_ | refine W2_exit ?_ | refine W2_skip ?_ | refine W2_seq ?_ | refine W2_block ?_)
  (((first | with_reducible apply W2_sc | with_reducible apply W2_cond); ((conv => lhs; simp only [go_sem]) <;> with_reducible rfl)) <;> intro hx <;> (try rw [hx]) <;> simp only [Bool.or_eq_true, Bool.and_eq_true, decide_eq_true_eq, Bool.or_eq_false_iff, Bool.and_eq_false_iff, decide_eq_false_iff_not, Bool.not_eq_true', Bool.not_eq_false', bne_iff_ne, beq_iff_eq, not_or, not_and, Decidable.not_not, ne_eq, gt_iff_lt, ge_iff_le, Int.not_lt, Int.not_le] at hx)
  · (repeat' with_reducible first | refine thn2_nrm ?_ | refine thn2_ret ?_ | refine thn2_ex ?_ | refine blk2_nrm ?_ | refine blk2_ret ?_ | refine blk2_at ?_ | (refine blk2_ex ?_ ?_; decide) | refine W2_sas ?_ | refine W2_ss ?_ | refine W2_sret ?_ | refine W2_sexit ?_ | ((first | apply W2_sra | apply W2_srda | apply W2_runa | apply W2_runda); (conv => lhs; simp only [go_sem, ibin, ishift]) <;> rfl) | ((first | apply W2_sct | apply W2_t2); (conv => lhs; simp only [go_sem]) <;> rfl; rfl) | ((first | apply W2_scf | apply W2_f2); (conv => lhs; simp only [go_sem]) <;> rfl; rfl) | refine W2_ret ?_ | refine W2_exit ?_ | refine W2_skip ?_ | refine W2_seq ?_ | refine W2_block ?_)
    refine ⟨by first | exact .inr rfl | exact .inl rfl, _, _, (by (conv => lhs; simp only [go_sem, ibin, ishift]) <;> with_reducible rfl), (by (conv => lhs; simp only [go_sem, ibin, ishift]) <;> with_reducible rfl), ?_⟩
    refine ⟨[], by decide, rfl, ?_⟩
    exact ⟨fun _ => ⟨rfl, rfl⟩, by omega⟩
  · obtain ⟨m, rfl⟩ := Int.eq_ofNat_of_zero_le (show 0 ≤ n by omega)
    have hr : (m : Int) * 8 ≤ (room : Int) := by simp only [room]; omega
    have hc : (List.replicate m [PV.i .i64 0]) = (List.replicate m (0 : Int)).map cI := by simp [cI]
    (repeat' with_reducible first | refine thn2_nrm ?_ | refine thn2_ret ?_ | refine thn2_ex ?_ | refine blk2_nrm ?_ | refine blk2_ret ?_ | refine blk2_at ?_ | (refine blk2_ex ?_ ?_; decide) | refine W2_sas ?_ | refine W2_ss ?_ | refine W2_sret ?_ | refine W2_sexit ?_ | refine W2_skip ?_ | ((first | apply W2_sct | apply W2_t2); (conv => lhs; simp only [go_sem]) <;> rfl; rfl) | ((first | apply W2_scf | apply W2_f2); (conv => lhs; simp only [go_sem]) <;> rfl; rfl) | refine W2_block ?_)
    (with_reducible apply W2_sra); ((conv => lhs; simp only [go_sem, ibin, ishift, hr, hc, Int.le_refl]) <;> with_reducible rfl)
    refine W2.weak (Wk.nilc 1 1 2 rfl rfl) ?_
    (repeat' with_reducible first | refine thn2_nrm ?_ | refine thn2_ret ?_ | refine thn2_ex ?_ | refine blk2_nrm ?_ | refine blk2_ret ?_ | refine blk2_at ?_ | (refine blk2_ex ?_ ?_; decide) | refine W2_sas ?_ | refine W2_ss ?_ | refine W2_sret ?_ | refine W2_sexit ?_ | ((first | apply W2_sra | apply W2_srda | apply W2_runa | apply W2_runda); (conv => lhs; simp only [go_sem, ibin, ishift]) <;> rfl) | ((first | apply W2_sct | apply W2_t2); (conv => lhs; simp only [go_sem]) <;> rfl; rfl) | ((first | apply W2_scf | apply W2_f2); (conv => lhs; simp only [go_sem]) <;> rfl; rfl) | refine W2_ret ?_ | refine W2_exit ?_ | refine W2_skip ?_ | refine W2_seq ?_ | refine W2_block ?_)
    refine ⟨by first | exact .inr rfl | exact .inl rfl, _, _, (by (conv => lhs; simp only [go_sem, ibin, ishift]) <;> with_reducible rfl), (by (conv => lhs; simp only [go_sem, ibin, ishift]) <;> with_reducible rfl), ?_⟩
    refine ⟨[1, 0, 2], by decide, rfl, ?_⟩
    refine ⟨by omega, fun _ _ => ⟨rfl, ?_⟩⟩
    simp only [emp, Tab.h, Int.toNat_natCast, List.length_replicate]
    rfl
end Go.Proofs.Ytpgoemmjhnnmoaa.Ab
