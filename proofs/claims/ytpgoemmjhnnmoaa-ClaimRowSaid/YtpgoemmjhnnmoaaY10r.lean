/- Chapter 10: ClaimRow, the walk. -/
import Derived.Test.YtpgoemmjhnnmoaaY10q
import Derived.Test.YtpgoemmjhnnmoaaSx16
namespace Go.Proofs.Ytpgoemmjhnnmoaa.Ab
open Go
set_option linter.unusedVariables false
set_option linter.unusedSimpArgs false
variable {T : AT}
theorem row_emp {n : Nat} (h : n < 5) : rowT n [] = emp 5 := by
  simp only [rowT, emp, List.headD_nil, List.tail_nil, List.map_nil]
  congr 1
  rcases (by omega : n = 0 ∨ n = 1 ∨ n = 2 ∨ n = 3 ∨ n = 4) with rfl | rfl | rfl | rfl | rfl <;> rfl
theorem row_holder {n : Nat} {l : List Int} (h : n < 5) : (rowT n l).holder (n : Int) = l.headD 0 := by
  rw [Tab.holder, if_neg (by omega), Int.toNat_natCast, row_hold h]; rfl
set_option maxHeartbeats 2000000 in
theorem claimRow_law (c : TabL10 T) (hI : T i_stillageref01_Ints = some (.fn c_stillageref01_Ints)) (hT : T i_stillagelaw10_ClaimRow = some (.fn c_stillagelaw10_ClaimRow)) (totes : List Int) (n0 : Int) : Ret2 T 0 i_stillagelaw10_ClaimRow [.fz 1 (totes.map cI), .i .i64 n0] [] (fun v h' => v = .b true) := by
  refine Ret2_fnv hT rfl rfl ?_
  (repeat' with_reducible first | refine thn2_nrm ?_ | refine thn2_ret ?_ | refine thn2_ex ?_ | refine blk2_nrm ?_ | refine blk2_ret ?_ | refine blk2_at ?_ | (refine blk2_ex ?_ ?_; decide) | refine W2_sas ?_ | refine W2_ss ?_ | refine W2_sret ?_ | refine W2_sexit ?_ | ((first | apply W2_sra | apply W2_srda | apply W2_runa | apply W2_runda); (conv => lhs; simp only [go_sem, ibin, ishift]) <;> rfl) | ((first | apply W2_sct | apply W2_t2); (conv => lhs; simp only [go_sem]) <;> rfl; rfl) | ((first | apply W2_scf | apply W2_f2); (conv => lhs; simp only [go_sem]) <;> rfl; rfl) | refine W2_ret ?_ | refine W2_exit ?_ | refine W2_skip ?_ | refine W2_seq ?_ | refine W2_block ?_)
  ((with_reducible first | apply W2_scall | apply W2_scalld | apply W2_calla | apply W2_callda | apply run2a_sound); ((conv => lhs; simp only [go_sem, ibin, ishift]) <;> with_reducible rfl))
  refine CK_pure (always2 c.awake) rfl ?_
  rintro v h' ⟨rfl, rfl⟩
  ((with_reducible first | apply WO2_finw | apply WO2_fina); ((conv => lhs; simp only [go_sem, ibin, ishift]) <;> with_reducible rfl))
  obtain ⟨n, hn, hn5⟩ := below n0 5 (by omega) (by omega)
  have hn : IntKind.i64.wrap ((IntKind.u64.wrap n0).tmod 5) = (n : Int) := hn
  have z5 : ((5 : Int) = 0) = False := by simp
  have z30 : ((30 : Int) = 0) = False := by simp
  (repeat' with_reducible first | refine thn2_nrm ?_ | refine thn2_ret ?_ | refine thn2_ex ?_ | refine blk2_nrm ?_ | refine blk2_ret ?_ | refine blk2_at ?_ | (refine blk2_ex ?_ ?_; decide) | refine W2_sas ?_ | refine W2_ss ?_ | refine W2_sret ?_ | refine W2_sexit ?_ | ((first | apply W2_sra | apply W2_srda | apply W2_runa | apply W2_runda); (conv => lhs; simp only [go_sem, ibin, ishift]) <;> rfl) | ((first | apply W2_sct | apply W2_t2); (conv => lhs; simp only [go_sem]) <;> rfl; rfl) | ((first | apply W2_scf | apply W2_f2); (conv => lhs; simp only [go_sem]) <;> rfl; rfl) | refine W2_ret ?_ | refine W2_exit ?_ | refine W2_skip ?_ | refine W2_seq ?_ | refine W2_block ?_)
  ((with_reducible first | apply W2_scall | apply W2_scalld | apply W2_calla | apply W2_callda | apply run2a_sound); ((conv => lhs; simp only [go_sem, ibin, ishift]) <;> with_reducible rfl))
  refine CK_pure (new_spec c.toTabC3 5) rfl ?_
  rintro v h' ⟨_, hn2⟩
  obtain ⟨rfl, rfl⟩ := hn2 (by omega) (by omega)
  rw [show (5 : Int).toNat = 5 from rfl, ← row_emp hn5]
  unfold Tab.h
  ((with_reducible first | apply WO2_finw | apply WO2_fina); ((conv => lhs; simp only [go_sem, ibin, ishift]) <;> with_reducible rfl))
  ((repeat' with_reducible first | refine thn2_nrm ?_ | refine thn2_ret ?_ | refine thn2_ex ?_ | refine blk2_nrm ?_ | refine blk2_ret ?_ | refine blk2_at ?_ | (refine blk2_ex ?_ ?_; decide) | refine W2_sas ?_ | refine W2_ss ?_ | refine W2_sret ?_ | refine W2_sexit ?_ | refine W2_skip ?_ | ((first | apply W2_sct | apply W2_t2); (conv => lhs; simp only [go_sem]) <;> rfl; rfl) | ((first | apply W2_scf | apply W2_f2); (conv => lhs; simp only [go_sem]) <;> rfl; rfl) | refine W2_block ?_); (with_reducible first | apply W2_sra | apply W2_srda | apply W2_runa | apply W2_runda); ((conv => lhs; simp only [go_sem, ibin, ishift]) <;> with_reducible rfl))
  ((repeat' with_reducible first | refine thn2_nrm ?_ | refine thn2_ret ?_ | refine thn2_ex ?_ | refine blk2_nrm ?_ | refine blk2_ret ?_ | refine blk2_at ?_ | (refine blk2_ex ?_ ?_; decide) | refine W2_sas ?_ | refine W2_ss ?_ | refine W2_sret ?_ | refine W2_sexit ?_ | refine W2_skip ?_ | ((first | apply W2_sct | apply W2_t2); (conv => lhs; simp only [go_sem]) <;> rfl; rfl) | ((first | apply W2_scf | apply W2_f2); (conv => lhs; simp only [go_sem]) <;> rfl; rfl) | refine W2_block ?_); (with_reducible first | apply W2_sra | apply W2_srda | apply W2_runa | apply W2_runda); ((conv => lhs; simp only [go_sem, ibin, ishift, hn, z5]) <;> with_reducible rfl))
  ((repeat' with_reducible first | refine thn2_nrm ?_ | refine thn2_ret ?_ | refine thn2_ex ?_ | refine blk2_nrm ?_ | refine blk2_ret ?_ | refine blk2_at ?_ | (refine blk2_ex ?_ ?_; decide) | refine W2_sas ?_ | refine W2_ss ?_ | refine W2_sret ?_ | refine W2_sexit ?_ | refine W2_skip ?_ | ((first | apply W2_sct | apply W2_t2); (conv => lhs; simp only [go_sem]) <;> rfl; rfl) | ((first | apply W2_scf | apply W2_f2); (conv => lhs; simp only [go_sem]) <;> rfl; rfl) | refine W2_block ?_); (with_reducible first | apply W2_sra | apply W2_srda | apply W2_runa | apply W2_runda); ((conv => lhs; simp only [go_sem, ibin, ishift]) <;> with_reducible rfl))
  refine W2.wnil 7 1 rfl (by (conv => lhs; simp only [go_sem, ibin, ishift]) <;> with_reducible rfl) (by (conv => lhs; simp only [go_sem, ibin, ishift]) <;> with_reducible rfl) ?_
  (repeat' with_reducible first | refine thn2_nrm ?_ | refine thn2_ret ?_ | refine thn2_ex ?_ | refine blk2_nrm ?_ | refine blk2_ret ?_ | refine blk2_at ?_ | (refine blk2_ex ?_ ?_; decide) | refine W2_sas ?_ | refine W2_ss ?_ | refine W2_sret ?_ | refine W2_sexit ?_ | ((first | apply W2_sra | apply W2_srda | apply W2_runa | apply W2_runda); (conv => lhs; simp only [go_sem, ibin, ishift, hn, z5]) <;> rfl) | ((first | apply W2_sct | apply W2_t2); (conv => lhs; simp only [go_sem]) <;> rfl; rfl) | ((first | apply W2_scf | apply W2_f2); (conv => lhs; simp only [go_sem]) <;> rfl; rfl) | refine W2_ret ?_ | refine W2_exit ?_ | refine W2_skip ?_ | refine W2_seq ?_ | refine W2_block ?_)
  refine W2_loopv (fun m e h => ∃ (i : Nat) (l : List Int), i + m = totes.length ∧ Row n l ∧ l.length ≤ i ∧ i ≤ 30 ∧ e = [(0, .fz 1 (totes.map cI)), (1, .i .i64 n), (5, .ptr 0 0), (7, .sl 1 3 0 l.length none), (8, .i .i64 i)] ∧ h = [some (.obj [.sl 1 1 0 (rowT n l).hold.length none, .sl 2 2 0 (rowT n l).q.length none]), some (.arr 1 ((rowT n l).hold.map cI)), some (.arr 2 ((rowT n l).q.map cQ)), some (.arr 1 (l.map cI))]) totes.length ⟨0, [], by omega, ⟨hn5, .nil, by simp⟩, by simp, by omega, rfl, rfl⟩ ?_
  rintro m e h ⟨i, l, hi, hR, hli, hi30, rfl, rfl⟩
  (repeat' with_reducible first | refine thn2_nrm ?_ | refine thn2_ret ?_ | refine thn2_ex ?_ | refine blk2_nrm ?_ | refine blk2_ret ?_ | refine blk2_at ?_ | (refine blk2_ex ?_ ?_; decide) | refine W2_sas ?_ | refine W2_ss ?_ | refine W2_sret ?_ | refine W2_sexit ?_ | ((first | apply W2_sra | apply W2_srda | apply W2_runa | apply W2_runda); (conv => lhs; simp only [go_sem, ibin, ishift]) <;> rfl) | ((first | apply W2_sct | apply W2_t2); (conv => lhs; simp only [go_sem]) <;> rfl; rfl) | ((first | apply W2_scf | apply W2_f2); (conv => lhs; simp only [go_sem]) <;> rfl; rfl) | refine W2_ret ?_ | refine W2_exit ?_ | refine W2_skip ?_ | refine W2_seq ?_ | refine W2_block ?_)
  (((first | with_reducible apply W2_sc | with_reducible apply W2_cond); ((conv => lhs; simp only [go_sem]) <;> with_reducible rfl)) <;> intro hx <;> (try rw [hx]) <;> simp only [Bool.or_eq_true, Bool.and_eq_true, decide_eq_true_eq, Bool.or_eq_false_iff, Bool.and_eq_false_iff, decide_eq_false_iff_not, Bool.not_eq_true', Bool.not_eq_false', bne_iff_ne, beq_iff_eq, not_or, not_and, Decidable.not_not, ne_eq, gt_iff_lt, ge_iff_le, Int.not_lt, Int.not_le] at hx)
  · have hit : i < totes.length := by omega
    have hg := List.getElem?_eq_getElem hit
    generalize totes[i] = x0 at hg
    obtain ⟨b, hb, hb2⟩ := below x0 30 (by omega) (by omega)
    have hb : IntKind.i64.wrap ((IntKind.u64.wrap x0).tmod 30) = (b : Int) := hb
    obtain ⟨x, hx⟩ : ∃ x, x = b + 1 := ⟨_, rfl⟩
    have e2 : IntKind.i64.wrap ((b : Int) + 1) = (x : Int) := by rw [wi _ (by omega) (by omega)]; omega
    have hmi : (i : Int) < (totes.length : Int) := by omega
    have hok := row_ok n l hn5
    have hql : (rowT n l).q.length < 1000000 := by simp [rowT]; omega
    (repeat' with_reducible first | refine thn2_nrm ?_ | refine thn2_ret ?_ | refine thn2_ex ?_ | refine blk2_nrm ?_ | refine blk2_ret ?_ | refine blk2_at ?_ | (refine blk2_ex ?_ ?_; decide) | refine W2_sas ?_ | refine W2_ss ?_ | refine W2_sret ?_ | refine W2_sexit ?_ | ((first | apply W2_sra | apply W2_srda | apply W2_runa | apply W2_runda); (conv => lhs; simp only [go_sem, ibin, ishift, hg, hit, hmi, hb, e2, z30, cI]) <;> rfl) | ((first | apply W2_sct | apply W2_t2); (conv => lhs; simp only [go_sem]) <;> rfl; rfl) | ((first | apply W2_scf | apply W2_f2); (conv => lhs; simp only [go_sem]) <;> rfl; rfl) | refine W2_ret ?_ | refine W2_exit ?_ | refine W2_skip ?_ | refine W2_seq ?_ | refine W2_block ?_)
    ((with_reducible first | apply W2_scall | apply W2_scalld | apply W2_calla | apply W2_callda | apply run2a_sound); ((conv => lhs; simp only [go_sem, ibin, ishift]) <;> with_reducible rfl))
    refine CK_frz 4 rfl (args' := [.ptr 0 0, .i .i64 x, .fz 1 ([(n : Int)].map cI)]) rfl (by (conv => lhs; simp only [go_sem, ibin, ishift]) <;> with_reducible rfl) (by (conv => lhs; simp only [go_sem, ibin, ishift]) <;> with_reducible rfl) ?_
    refine CK_call [0, 1, 2] (claim_spec c.toTabC5 (rowT n l) hok hql (x : Int) [(n : Int)] (by simp)) (by decide) (by simp) rfl rfl rfl ?_
    rintro v h' ⟨rfl, rfl⟩
    have hcases : ∃ (t' : Tab) (yes : Bool) (er : Int), (rowT n l).put x [(n : Int)] = (t', yes, er) ∧ ((l.any (fun o => decide (o = (x : Int))) = false ∧ t' = rowT n (l ++ [(x : Int)]) ∧ (l = [] ∧ yes = true ∨ l ≠ [] ∧ yes = false) ∧ er = 0 ∧ Row n (l ++ [(x : Int)]))
        ∨ (l.any (fun o => decide (o = (x : Int))) = true ∧ (∃ r, l = (x : Int) :: r) ∧ er = 0 ∧ (yes = true ∧ t' = rowT n l ∧ l.length = 1 ∨ yes = false ∧ t' = rowX n l x ∧ 1 < l.length))
        ∨ (l.any (fun o => decide (o = (x : Int))) = true ∧ l[0]? ≠ some (x : Int) ∧ 0 < l.length ∧ er = 2 ∧ t' = rowT n l)) := by
      by_cases hxl : (x : Int) ∈ l
      · have hany : l.any (fun o => decide (o = (x : Int))) = true := List.any_eq_true.2 ⟨_, hxl, by simp⟩
        obtain ⟨y, r, rfl⟩ := List.exists_cons_of_ne_nil (show l ≠ [] from fun e => by rw [e] at hxl; cases hxl)
        by_cases hxy : y = (x : Int)
        · subst hxy
          match r, hR with
          | [], hR => exact ⟨_, _, _, row_again hR, .inr (.inl ⟨hany, ⟨_, rfl⟩, rfl, .inl ⟨rfl, rfl, rfl⟩⟩)⟩
          | z :: r, hR => exact ⟨_, _, _, row_behind hR, .inr (.inl ⟨hany, ⟨_, rfl⟩, rfl, .inr ⟨rfl, rfl, by simp⟩⟩)⟩
        · have hxr : (x : Int) ∈ r := by
            rcases List.mem_cons.1 hxl with h | h
            · exact (hxy h.symm).elim
            · exact h
          exact ⟨_, _, _, row_twice hR hxr, .inr (.inr ⟨hany, by simp [hxy], by simp, rfl, rfl⟩)⟩
      · have hany : l.any (fun o => decide (o = (x : Int))) = false := List.any_eq_false.2 fun o ho => by simp only [decide_eq_true_eq]; intro e; subst e; exact hxl ho
        have hR' : Row n (l ++ [(x : Int)]) := ⟨hR.n5, by
          rw [List.nodup_append]
          refine ⟨hR.nd, by simp, fun a ha b hb => ?_⟩
          simp at hb; subst hb; intro e; subst e; exact hxl ha, fun z hz => by
          rcases List.mem_append.1 hz with h | h
          · exact hR.rg z h
          · simp at h; omega⟩
        by_cases hl0 : l = []
        · subst hl0
          exact ⟨_, _, _, row_first hn5 (by omega) (by omega), .inl ⟨hany, rfl, .inl ⟨rfl, rfl⟩, rfl, hR'⟩⟩
        · exact ⟨_, _, _, row_new hR hl0 (by omega) (by omega) hxl, .inl ⟨hany, rfl, .inr ⟨hl0, rfl⟩, rfl, hR'⟩⟩
    obtain ⟨t', yes, er, he, hcs⟩ := hcases
    rw [he]
    unfold Tab.h
    ((with_reducible first | apply WO2_finw | apply WO2_fina); ((conv => lhs; simp only [go_sem, ibin, ishift]) <;> with_reducible rfl))
    refine W2.wview [0, 1, 2, 3] (by decide) rfl (by (conv => lhs; simp only [go_sem, ibin, ishift]) <;> with_reducible rfl) (by (conv => lhs; simp only [go_sem, ibin, ishift]) <;> with_reducible rfl) ?_
    (repeat' with_reducible first | refine thn2_nrm ?_ | refine thn2_ret ?_ | refine thn2_ex ?_ | refine blk2_nrm ?_ | refine blk2_ret ?_ | refine blk2_at ?_ | (refine blk2_ex ?_ ?_; decide) | refine W2_sas ?_ | refine W2_ss ?_ | refine W2_sret ?_ | refine W2_sexit ?_ | ((first | apply W2_sra | apply W2_srda | apply W2_runa | apply W2_runda); (conv => lhs; simp only [go_sem, ibin, ishift]) <;> rfl) | ((first | apply W2_sct | apply W2_t2); (conv => lhs; simp only [go_sem]) <;> rfl; rfl) | ((first | apply W2_scf | apply W2_f2); (conv => lhs; simp only [go_sem]) <;> rfl; rfl) | refine W2_ret ?_ | refine W2_exit ?_ | refine W2_skip ?_ | refine W2_seq ?_ | refine W2_block ?_)
    refine W2_loopv (fun m e h => ∃ j, j + m = l.length ∧ e = [(0, .fz 1 (totes.map cI)), (1, .i .i64 n), (5, .ptr 0 0), (7, .sl 1 3 0 l.length none), (8, .i .i64 i), (9, .i .i64 x), (10, .b yes), (11, .i .i64 er), (12, .b ((l.take j).any (fun o => decide (o = (x : Int))))), (62, .sl 1 3 0 l.length none), (63, .i .i64 l.length), (64, .i .i64 j)] ∧
      h = [some (.obj [.sl 1 1 0 t'.hold.length none, .sl 2 2 0 t'.q.length none]), some (.arr 1 (t'.hold.map cI)), some (.arr 2 (t'.q.map cQ)), some (.arr 1 (l.map cI))]) l.length ⟨0, by omega, rfl, rfl⟩ ?_
    rintro m e h ⟨j, hj, rfl, rfl⟩
    (repeat' with_reducible first | refine thn2_nrm ?_ | refine thn2_ret ?_ | refine thn2_ex ?_ | refine blk2_nrm ?_ | refine blk2_ret ?_ | refine blk2_at ?_ | (refine blk2_ex ?_ ?_; decide) | refine W2_sas ?_ | refine W2_ss ?_ | refine W2_sret ?_ | refine W2_sexit ?_ | ((first | apply W2_sra | apply W2_srda | apply W2_runa | apply W2_runda); (conv => lhs; simp only [go_sem, ibin, ishift]) <;> rfl) | ((first | apply W2_sct | apply W2_t2); (conv => lhs; simp only [go_sem]) <;> rfl; rfl) | ((first | apply W2_scf | apply W2_f2); (conv => lhs; simp only [go_sem]) <;> rfl; rfl) | refine W2_ret ?_ | refine W2_exit ?_ | refine W2_skip ?_ | refine W2_seq ?_ | refine W2_block ?_)
    (((first | with_reducible apply W2_sc | with_reducible apply W2_cond); ((conv => lhs; simp only [go_sem]) <;> with_reducible rfl)) <;> intro hx <;> (try rw [hx]) <;> simp only [Bool.or_eq_true, Bool.and_eq_true, decide_eq_true_eq, Bool.or_eq_false_iff, Bool.and_eq_false_iff, decide_eq_false_iff_not, Bool.not_eq_true', Bool.not_eq_false', bne_iff_ne, beq_iff_eq, not_or, not_and, Decidable.not_not, ne_eq, gt_iff_lt, ge_iff_le, Int.not_lt, Int.not_le] at hx)
    · have hjl : j < l.length := by omega
      have hg := List.getElem?_eq_getElem hjl
      have htk : l.take (j + 1) = l.take j ++ [l[j]] := by rw [List.take_add_one, List.getElem?_eq_getElem hjl]; rfl
      generalize l[j] = y at hg htk
      have hs : (l.take (j + 1)).any (fun o => decide (o = (x : Int))) = ((l.take j).any (fun o => decide (o = (x : Int))) || decide (y = (x : Int))) := by rw [htk, List.any_append]; simp
      generalize (l.take j).any (fun o => decide (o = (x : Int))) = f at hs
      (repeat' with_reducible first | refine thn2_nrm ?_ | refine thn2_ret ?_ | refine thn2_ex ?_ | refine blk2_nrm ?_ | refine blk2_ret ?_ | refine blk2_at ?_ | (refine blk2_ex ?_ ?_; decide) | refine W2_sas ?_ | refine W2_ss ?_ | refine W2_sret ?_ | refine W2_sexit ?_ | ((first | apply W2_sra | apply W2_srda | apply W2_runa | apply W2_runda); (conv => lhs; simp only [go_sem, ibin, ishift, hg, hjl, cI, wS (show j < 9223372036854775807 by omega)]) <;> rfl) | ((first | apply W2_sct | apply W2_t2); (conv => lhs; simp only [go_sem]) <;> rfl; rfl) | ((first | apply W2_scf | apply W2_f2); (conv => lhs; simp only [go_sem]) <;> rfl; rfl) | refine W2_ret ?_ | refine W2_exit ?_ | refine W2_skip ?_ | refine W2_seq ?_ | refine W2_block ?_)
      refine ⟨[0, 1, 2, 3], by decide, rfl, ?_⟩
      refine ⟨l.length - (j + 1), by omega, j + 1, by omega, ?_, rfl⟩
      rw [hs]
      rfl
    · have : j = l.length := by omega
      subst this
      rw [List.take_length]
      have hroom : (l.length + 1) * 8 ≤ room := by simp only [room]; omega
      have hw := wS (show i < 9223372036854775807 by omega)
      rcases hcs with ⟨hany, rfl, ⟨rfl, rfl⟩ | ⟨hl0, rfl⟩, rfl, hR'⟩ | ⟨hany, ⟨r, rfl⟩, rfl, hcs⟩ | ⟨hany, hne, hpos, rfl, rfl⟩
      · rw [hany]
        have h8 : 8 ≤ room := by decide
        (repeat' with_reducible first | refine thn2_nrm ?_ | refine thn2_ret ?_ | refine thn2_ex ?_ | refine blk2_nrm ?_ | refine blk2_ret ?_ | refine blk2_at ?_ | (refine blk2_ex ?_ ?_; decide) | refine W2_sas ?_ | refine W2_ss ?_ | refine W2_sret ?_ | refine W2_sexit ?_ | ((first | apply W2_sra | apply W2_srda | apply W2_runa | apply W2_runda); (conv => lhs; simp only [go_sem, ibin, ishift, hroom, hw, h8]) <;> rfl) | ((first | apply W2_sct | apply W2_t2); (conv => lhs; simp only [go_sem]) <;> rfl; rfl) | ((first | apply W2_scf | apply W2_f2); (conv => lhs; simp only [go_sem]) <;> rfl; rfl) | refine W2_ret ?_ | refine W2_exit ?_ | refine W2_skip ?_ | refine W2_seq ?_ | refine W2_block ?_)
        refine ⟨[0, 1, 2, 5], by decide, rfl, ?_⟩
        exact ⟨totes.length - (i + 1), by omega, i + 1, [(x : Int)], by omega, hR', by simp, by omega, rfl, rfl⟩
      · rw [hany]
        cases l with
        | nil => exact (hl0 rfl).elim
        | cons y r =>
          have hyx : decide (y = (x : Int)) = false := by simpa using (List.any_eq_false.1 hany) y (.head _)
          have hp : decide (((y :: r).length : Int) > 0) = true := decide_eq_true (by simp)
          have hp0 : decide (((y :: r).length : Int) = 0) = false := decide_eq_false (by simp; omega)
          have hp1 : (0 : Int) < ((y :: r).length : Int) := by simp
          have hg0 : (y :: r)[0]? = some y := rfl
          have hli' : (y :: r).length ≤ i := hli
          have hroom' : ((y :: r).length + 1) * 8 ≤ room := hroom
          have hlp : 0 < (y :: r).length := by simp
          generalize (y :: r) = l at hR' hp hp0 hp1 hg0 hli' hroom' hlp
          (repeat' with_reducible first | refine thn2_nrm ?_ | refine thn2_ret ?_ | refine thn2_ex ?_ | refine blk2_nrm ?_ | refine blk2_ret ?_ | refine blk2_at ?_ | (refine blk2_ex ?_ ?_; decide) | refine W2_sas ?_ | refine W2_ss ?_ | refine W2_sret ?_ | refine W2_sexit ?_ | ((first | apply W2_sra | apply W2_srda | apply W2_runa | apply W2_runda); (conv => lhs; simp only [go_sem, ibin, ishift, hroom', hw, hp, hp0, hp1, hg0, hyx, hlp, cI, Int.le_refl]) <;> rfl) | ((first | apply W2_sct | apply W2_t2); (conv => lhs; simp only [go_sem]) <;> rfl; rfl) | ((first | apply W2_scf | apply W2_f2); (conv => lhs; simp only [go_sem]) <;> rfl; rfl) | refine W2_ret ?_ | refine W2_exit ?_ | refine W2_skip ?_ | refine W2_seq ?_ | refine W2_block ?_)
          refine ⟨[0, 1, 2, 5], by decide, rfl, ?_⟩
          exact ⟨totes.length - (i + 1), by omega, i + 1, l ++ [(x : Int)], by omega, hR', by simp; omega, by omega, (by rw [List.length_append]; first | rfl | ((conv => lhs; simp only [go_sem, ibin, ishift]) <;> rfl)), (by rw [List.map_append]; first | rfl | ((conv => lhs; simp only [go_sem, ibin, ishift]) <;> rfl))⟩
      · rw [hany]
        have hp : decide ((((x : Int) :: r).length : Int) > 0) = true := decide_eq_true (by simp)
        have hp1 : (0 : Int) < (((x : Int) :: r).length : Int) := by simp
        have hg0 : ((x : Int) :: r)[0]? = some (x : Int) := rfl
        have hlp : 0 < ((x : Int) :: r).length := by simp
        have hxx : decide ((x : Int) = (x : Int)) = true := by simp
        have hqlen : t'.q.length ≤ 1000000 := by
          rcases hcs with ⟨_, rfl, _⟩ | ⟨_, rfl, _⟩
          · omega
          · simp only [rowX, List.length_append, List.length_cons, List.length_nil]; omega
        have hok' : t'.Ok := by
          rcases hcs with ⟨_, rfl, _⟩ | ⟨_, rfl, _⟩
          · exact hok
          · refine ⟨fun cl hcl => ?_, hok.hl⟩
            rcases List.mem_append.1 hcl with h | h
            · exact hok.q cl h
            · rw [List.mem_singleton.1 h]; exact ⟨in5 hn5 _, by simp [oneC]⟩
        have hyes : decide ((t'.q.length : Int) = 0) = yes := by
          rcases hcs with ⟨rfl, rfl, h1⟩ | ⟨rfl, rfl, h1⟩
          · have : r = [] := by cases r with | nil => rfl | cons => simp at h1
            subst this
            simp [rowT]
          · simp only [rowX, List.length_append, List.length_cons, List.length_nil, decide_eq_false_iff_not]; omega
        have hdrop : yes = false → t'.drop (x : Int) = (rowT n ((x : Int) :: r), [], 0) := fun hy => by
          rcases hcs with ⟨rfl, rfl, h1⟩ | ⟨_, rfl, h1⟩
          · cases hy
          · exact row_drop hR
        have hsame : yes = true → t' = rowT n ((x : Int) :: r) := fun hy => by
          rcases hcs with ⟨_, rfl, h1⟩ | ⟨rfl, rfl, h1⟩
          · rfl
          · cases hy
        clear hcs he
        generalize ((x : Int) :: r) = l at *
        (repeat' with_reducible first | refine thn2_nrm ?_ | refine thn2_ret ?_ | refine thn2_ex ?_ | refine blk2_nrm ?_ | refine blk2_ret ?_ | refine blk2_at ?_ | (refine blk2_ex ?_ ?_; decide) | refine W2_sas ?_ | refine W2_ss ?_ | refine W2_sret ?_ | refine W2_sexit ?_ | ((first | apply W2_sra | apply W2_srda | apply W2_runa | apply W2_runda); (conv => lhs; simp only [go_sem, ibin, ishift, hp, hp1, hg0, hlp, hxx, cI, Int.le_refl]) <;> rfl) | ((first | apply W2_sct | apply W2_t2); (conv => lhs; simp only [go_sem]) <;> rfl; rfl) | ((first | apply W2_scf | apply W2_f2); (conv => lhs; simp only [go_sem]) <;> rfl; rfl) | refine W2_ret ?_ | refine W2_exit ?_ | refine W2_skip ?_ | refine W2_seq ?_ | refine W2_block ?_)
        ((with_reducible first | apply W2_scall | apply W2_scalld | apply W2_calla | apply W2_callda | apply run2a_sound); ((conv => lhs; simp only [go_sem, ibin, ishift]) <;> with_reducible rfl))
        refine CK_call [0, 1, 2] (waiting_spec c.toTabC3 t' hqlen) (by decide) (by simp) rfl rfl rfl ?_
        rintro v h' ⟨rfl, rfl⟩
        unfold Tab.h
        cases yes with
        | true =>
          have hs := hsame rfl
          subst hs
          ((with_reducible first | apply WO2_finw | apply WO2_fina); ((conv => lhs; simp only [go_sem, ibin, ishift, hyes]) <;> with_reducible rfl))
          (repeat' with_reducible first | refine thn2_nrm ?_ | refine thn2_ret ?_ | refine thn2_ex ?_ | refine blk2_nrm ?_ | refine blk2_ret ?_ | refine blk2_at ?_ | (refine blk2_ex ?_ ?_; decide) | refine W2_sas ?_ | refine W2_ss ?_ | refine W2_sret ?_ | refine W2_sexit ?_ | ((first | apply W2_sra | apply W2_srda | apply W2_runa | apply W2_runda); (conv => lhs; simp only [go_sem, ibin, ishift, hw]) <;> rfl) | ((first | apply W2_sct | apply W2_t2); (conv => lhs; simp only [go_sem]) <;> rfl; rfl) | ((first | apply W2_scf | apply W2_f2); (conv => lhs; simp only [go_sem]) <;> rfl; rfl) | refine W2_ret ?_ | refine W2_exit ?_ | refine W2_skip ?_ | refine W2_seq ?_ | refine W2_block ?_)
          refine ⟨[0, 1, 2, 3], by decide, rfl, ?_⟩
          exact ⟨totes.length - (i + 1), by omega, i + 1, l, by omega, hR, by omega, by omega, rfl, rfl⟩
        | false =>
          ((with_reducible first | apply WO2_finw | apply WO2_fina); ((conv => lhs; simp only [go_sem, ibin, ishift, hyes]) <;> with_reducible rfl))
          (repeat' with_reducible first | refine thn2_nrm ?_ | refine thn2_ret ?_ | refine thn2_ex ?_ | refine blk2_nrm ?_ | refine blk2_ret ?_ | refine blk2_at ?_ | (refine blk2_ex ?_ ?_; decide) | refine W2_sas ?_ | refine W2_ss ?_ | refine W2_sret ?_ | refine W2_sexit ?_ | ((first | apply W2_sra | apply W2_srda | apply W2_runa | apply W2_runda); (conv => lhs; simp only [go_sem, ibin, ishift]) <;> rfl) | ((first | apply W2_sct | apply W2_t2); (conv => lhs; simp only [go_sem]) <;> rfl; rfl) | ((first | apply W2_scf | apply W2_f2); (conv => lhs; simp only [go_sem]) <;> rfl; rfl) | refine W2_ret ?_ | refine W2_exit ?_ | refine W2_skip ?_ | refine W2_seq ?_ | refine W2_block ?_)
          ((with_reducible first | apply W2_scall | apply W2_scalld | apply W2_calla | apply W2_callda | apply run2a_sound); ((conv => lhs; simp only [go_sem, ibin, ishift]) <;> with_reducible rfl))
          refine CK_call [0, 1, 2] (drop_spec c.toTabC5 t' hok' hqlen (x : Int)) (by decide) (by simp) rfl rfl rfl ?_
          rintro v h' ⟨rfl, rfl⟩
          rw [hdrop rfl]
          unfold Tab.h
          ((with_reducible first | apply WO2_finw | apply WO2_fina); ((conv => lhs; simp only [go_sem, ibin, ishift]) <;> with_reducible rfl))
          (repeat' with_reducible first | refine thn2_nrm ?_ | refine thn2_ret ?_ | refine thn2_ex ?_ | refine blk2_nrm ?_ | refine blk2_ret ?_ | refine blk2_at ?_ | (refine blk2_ex ?_ ?_; decide) | refine W2_sas ?_ | refine W2_ss ?_ | refine W2_sret ?_ | refine W2_sexit ?_ | ((first | apply W2_sra | apply W2_srda | apply W2_runa | apply W2_runda); (conv => lhs; simp only [go_sem, ibin, ishift, hw]) <;> rfl) | ((first | apply W2_sct | apply W2_t2); (conv => lhs; simp only [go_sem]) <;> rfl; rfl) | ((first | apply W2_scf | apply W2_f2); (conv => lhs; simp only [go_sem]) <;> rfl; rfl) | refine W2_ret ?_ | refine W2_exit ?_ | refine W2_skip ?_ | refine W2_seq ?_ | refine W2_block ?_)
          refine ⟨[0, 1, 2, 3], by decide, rfl, ?_⟩
          exact ⟨totes.length - (i + 1), by omega, i + 1, l, by omega, hR, by omega, by omega, rfl, rfl⟩
      · rw [hany]
        obtain ⟨y, hg0⟩ : ∃ y, l[0]? = some y := ⟨_, List.getElem?_eq_getElem hpos⟩
        have hyx : decide (y = (x : Int)) = false := decide_eq_false fun e => hne (by rw [hg0, e])
        have hp : decide ((l.length : Int) > 0) = true := decide_eq_true (by omega)
        have hp1 : (0 : Int) < (l.length : Int) := by omega
        (repeat' with_reducible first | refine thn2_nrm ?_ | refine thn2_ret ?_ | refine thn2_ex ?_ | refine blk2_nrm ?_ | refine blk2_ret ?_ | refine blk2_at ?_ | (refine blk2_ex ?_ ?_; decide) | refine W2_sas ?_ | refine W2_ss ?_ | refine W2_sret ?_ | refine W2_sexit ?_ | ((first | apply W2_sra | apply W2_srda | apply W2_runa | apply W2_runda); (conv => lhs; simp only [go_sem, ibin, ishift, hw, hp, hp1, hg0, hyx, hpos, cI, Int.le_refl]) <;> rfl) | ((first | apply W2_sct | apply W2_t2); (conv => lhs; simp only [go_sem]) <;> rfl; rfl) | ((first | apply W2_scf | apply W2_f2); (conv => lhs; simp only [go_sem]) <;> rfl; rfl) | refine W2_ret ?_ | refine W2_exit ?_ | refine W2_skip ?_ | refine W2_seq ?_ | refine W2_block ?_)
        refine ⟨[0, 1, 2, 3], by decide, rfl, ?_⟩
        exact ⟨totes.length - (i + 1), by omega, i + 1, l, by omega, hR, by omega, by omega, rfl, rfl⟩
  · refine W2.wfrz 3 rfl (by (conv => lhs; simp only [go_sem, ibin, ishift]) <;> with_reducible rfl) (by (conv => lhs; simp only [go_sem, ibin, ishift]) <;> with_reducible rfl) ?_
    (repeat' with_reducible first | refine thn2_nrm ?_ | refine thn2_ret ?_ | refine thn2_ex ?_ | refine blk2_nrm ?_ | refine blk2_ret ?_ | refine blk2_at ?_ | (refine blk2_ex ?_ ?_; decide) | refine W2_sas ?_ | refine W2_ss ?_ | refine W2_sret ?_ | refine W2_sexit ?_ | ((first | apply W2_sra | apply W2_srda | apply W2_runa | apply W2_runda); (conv => lhs; simp only [go_sem, ibin, ishift]) <;> rfl) | ((first | apply W2_sct | apply W2_t2); (conv => lhs; simp only [go_sem]) <;> rfl; rfl) | ((first | apply W2_scf | apply W2_f2); (conv => lhs; simp only [go_sem]) <;> rfl; rfl) | refine W2_ret ?_ | refine W2_exit ?_ | refine W2_skip ?_ | refine W2_seq ?_ | refine W2_block ?_)
    refine W2_loopv (fun m e h => ∃ j, j + m = l.length ∧ e = [(1, .i .i64 n), (5, .ptr 0 0), (7, .fz 1 (l.map cI)), (137, .fz 1 (l.map cI)), (138, .i .i64 l.length), (139, .i .i64 j)] ∧
      h = [some (.obj [.sl 1 1 0 (rowT n (l.drop j)).hold.length none, .sl 2 2 0 (rowT n (l.drop j)).q.length none]), some (.arr 1 ((rowT n (l.drop j)).hold.map cI)), some (.arr 2 ((rowT n (l.drop j)).q.map cQ)), none]) l.length ⟨0, by omega, rfl, rfl⟩ ?_
    rintro m e h ⟨j, hj, rfl, rfl⟩
    (repeat' with_reducible first | refine thn2_nrm ?_ | refine thn2_ret ?_ | refine thn2_ex ?_ | refine blk2_nrm ?_ | refine blk2_ret ?_ | refine blk2_at ?_ | (refine blk2_ex ?_ ?_; decide) | refine W2_sas ?_ | refine W2_ss ?_ | refine W2_sret ?_ | refine W2_sexit ?_ | ((first | apply W2_sra | apply W2_srda | apply W2_runa | apply W2_runda); (conv => lhs; simp only [go_sem, ibin, ishift]) <;> rfl) | ((first | apply W2_sct | apply W2_t2); (conv => lhs; simp only [go_sem]) <;> rfl; rfl) | ((first | apply W2_scf | apply W2_f2); (conv => lhs; simp only [go_sem]) <;> rfl; rfl) | refine W2_ret ?_ | refine W2_exit ?_ | refine W2_skip ?_ | refine W2_seq ?_ | refine W2_block ?_)
    (((first | with_reducible apply W2_sc | with_reducible apply W2_cond); ((conv => lhs; simp only [go_sem]) <;> with_reducible rfl)) <;> intro hx <;> (try rw [hx]) <;> simp only [Bool.or_eq_true, Bool.and_eq_true, decide_eq_true_eq, Bool.or_eq_false_iff, Bool.and_eq_false_iff, decide_eq_false_iff_not, Bool.not_eq_true', Bool.not_eq_false', bne_iff_ne, beq_iff_eq, not_or, not_and, Decidable.not_not, ne_eq, gt_iff_lt, ge_iff_le, Int.not_lt, Int.not_le] at hx)
    · have hjl : j < l.length := by omega
      have hg := List.getElem?_eq_getElem hjl
      have hdr : l.drop j = l[j] :: l.drop (j + 1) := List.drop_eq_getElem_cons hjl
      generalize l[j] = y at hg hdr
      have hRj : Row n (y :: l.drop (j + 1)) := ⟨hn5, by rw [← hdr]; exact hR.nd.drop, fun z hz => hR.rg z (by rw [← hdr] at hz; exact List.mem_of_mem_drop hz)⟩
      have hho : (rowT n (l.drop j)).holder (n : Int) = y := by rw [hdr]; exact row_holder hn5
      have hre : (rowT n (l.drop j)).release y (n : Int) = (rowT n (l.drop (j + 1)), (l.drop (j + 1)).take 1, 0) := by rw [hdr]; exact row_release hRj
      have hokj := row_ok n (l.drop j) hn5
      have hqj : (rowT n (l.drop j)).q.length ≤ 1000000 := by simp [rowT]; omega
      generalize rowT n (l.drop j) = tj at hho hre hokj hqj
      (repeat' with_reducible first | refine thn2_nrm ?_ | refine thn2_ret ?_ | refine thn2_ex ?_ | refine blk2_nrm ?_ | refine blk2_ret ?_ | refine blk2_at ?_ | (refine blk2_ex ?_ ?_; decide) | refine W2_sas ?_ | refine W2_ss ?_ | refine W2_sret ?_ | refine W2_sexit ?_ | ((first | apply W2_sra | apply W2_srda | apply W2_runa | apply W2_runda); (conv => lhs; simp only [go_sem, ibin, ishift, hg, hjl, cI]) <;> rfl) | ((first | apply W2_sct | apply W2_t2); (conv => lhs; simp only [go_sem]) <;> rfl; rfl) | ((first | apply W2_scf | apply W2_f2); (conv => lhs; simp only [go_sem]) <;> rfl; rfl) | refine W2_ret ?_ | refine W2_exit ?_ | refine W2_skip ?_ | refine W2_seq ?_ | refine W2_block ?_)
      ((with_reducible first | apply W2_scall | apply W2_scalld | apply W2_calla | apply W2_callda | apply run2a_sound); ((conv => lhs; simp only [go_sem, ibin, ishift]) <;> with_reducible rfl))
      refine CK_call [0, 1, 2] (holder_spec c.toTabC3 tj (n : Int)) (by decide) (by simp) rfl rfl rfl ?_
      rintro v h' ⟨rfl, rfl⟩
      rw [hho]
      unfold Tab.h
      ((with_reducible first | apply WO2_finw | apply WO2_fina); ((conv => lhs; simp only [go_sem, ibin, ishift]) <;> with_reducible rfl))
      (repeat' with_reducible first | refine thn2_nrm ?_ | refine thn2_ret ?_ | refine thn2_ex ?_ | refine blk2_nrm ?_ | refine blk2_ret ?_ | refine blk2_at ?_ | (refine blk2_ex ?_ ?_; decide) | refine W2_sas ?_ | refine W2_ss ?_ | refine W2_sret ?_ | refine W2_sexit ?_ | ((first | apply W2_sra | apply W2_srda | apply W2_runa | apply W2_runda); (conv => lhs; simp only [go_sem, ibin, ishift]) <;> rfl) | ((first | apply W2_sct | apply W2_t2); (conv => lhs; simp only [go_sem]) <;> rfl; rfl) | ((first | apply W2_scf | apply W2_f2); (conv => lhs; simp only [go_sem]) <;> rfl; rfl) | refine W2_ret ?_ | refine W2_exit ?_ | refine W2_skip ?_ | refine W2_seq ?_ | refine W2_block ?_)
      ((with_reducible first | apply W2_scall | apply W2_scalld | apply W2_calla | apply W2_callda | apply run2a_sound); ((conv => lhs; simp only [go_sem, ibin, ishift]) <;> with_reducible rfl))
      refine CK_call [0, 1, 2] (release_spec c.toTabC5 tj hokj hqj y (n : Int)) (by decide) (by simp) rfl rfl rfl ?_
      rintro v h' ⟨rfl, rfl⟩
      rw [hre]
      unfold Tab.h
      have hw := wS (show j < 9223372036854775807 by omega)
      have hw2 : IntKind.i64.wrap ((j : Int) + 2) = ((j + 2 : Nat) : Int) := by rw [wi _ (by omega) (by omega)]; omega
      by_cases hlast : j + 1 < l.length
      · have f1 : decide (((j + 1 : Nat) : Int) < (l.length : Int)) = true := decide_eq_true (by omega)
        have f2 : decide (((j + 1 : Nat) : Int) = (l.length : Int)) = false := decide_eq_false (by omega)
        have f3 : ((j + 1 : Nat) : Int) ≤ ((j + 2 : Nat) : Int) := by omega
        have f4 : ((j + 2 : Nat) : Int) ≤ (l.length : Int) := by omega
        have f5 : (0 : Int) ≤ ((j + 1 : Nat) : Int) := by omega
        have f6 : (0 : Int) ≤ ((j + 2 : Nat) : Int) := by omega
        have hcmp : (l.drop (j + 1)).take 1 = (l.take (j + 2)).drop (j + 1) := by rw [List.drop_take]; congr 1; omega
        ((with_reducible first | apply WO2_finw | apply WO2_fina); ((conv => lhs; simp only [go_sem, ibin, ishift]) <;> with_reducible rfl))
        (repeat' with_reducible first | refine thn2_nrm ?_ | refine thn2_ret ?_ | refine thn2_ex ?_ | refine blk2_nrm ?_ | refine blk2_ret ?_ | refine blk2_at ?_ | (refine blk2_ex ?_ ?_; decide) | refine W2_sas ?_ | refine W2_ss ?_ | refine W2_sret ?_ | refine W2_sexit ?_ | ((first | apply W2_sra | apply W2_srda | apply W2_runa | apply W2_runda); (conv => lhs; simp only [go_sem, ibin, ishift]) <;> rfl) | ((first | apply W2_sct | apply W2_t2); (conv => lhs; simp only [go_sem]) <;> rfl; rfl) | ((first | apply W2_scf | apply W2_f2); (conv => lhs; simp only [go_sem]) <;> rfl; rfl) | refine W2_ret ?_ | refine W2_exit ?_ | refine W2_skip ?_ | refine W2_seq ?_ | refine W2_block ?_)
        ((with_reducible first | apply W2_scall | apply W2_scalld | apply W2_calla | apply W2_callda | apply run2a_sound); ((conv => lhs; simp only [go_sem, ibin, ishift, hw, hw2, hlast, f1, f2, f3, f4, f5, f6, Int.le_refl, Int.toNat_natCast]) <;> with_reducible rfl))
        refine CK_pure (ints_spec hI ((l.drop (j + 1)).take 1) ((l.take (j + 2)).drop (j + 1)) (by simp; omega)) rfl ?_
        rintro v h' ⟨rfl, rfl⟩
        rw [decide_eq_true hcmp]
        have f7 : ¬ j + 1 = l.length := by omega
        ((with_reducible first | apply WO2_finw | apply WO2_fina); ((conv => lhs; simp only [go_sem, ibin, ishift, hw, f2, f7]) <;> with_reducible rfl))
        (repeat' with_reducible first | refine thn2_nrm ?_ | refine thn2_ret ?_ | refine thn2_ex ?_ | refine blk2_nrm ?_ | refine blk2_ret ?_ | refine blk2_at ?_ | (refine blk2_ex ?_ ?_; decide) | refine W2_sas ?_ | refine W2_ss ?_ | refine W2_sret ?_ | refine W2_sexit ?_ | ((first | apply W2_sra | apply W2_srda | apply W2_runa | apply W2_runda); (conv => lhs; simp only [go_sem, ibin, ishift, hw]) <;> rfl) | ((first | apply W2_sct | apply W2_t2); (conv => lhs; simp only [go_sem]) <;> rfl; rfl) | ((first | apply W2_scf | apply W2_f2); (conv => lhs; simp only [go_sem]) <;> rfl; rfl) | refine W2_ret ?_ | refine W2_exit ?_ | refine W2_skip ?_ | refine W2_seq ?_ | refine W2_block ?_)
        refine ⟨[0, 1, 2, 3], by decide, rfl, ?_⟩
        exact ⟨l.length - (j + 1), by omega, j + 1, by omega, rfl, rfl⟩
      · have hlast2 : j + 1 = l.length := by omega
        have hnil : (l.drop (j + 1)).take 1 = [] := by rw [List.drop_eq_nil_of_le (by omega)]; rfl
        rw [hnil]
        have g1 : decide (((j + 1 : Nat) : Int) = (l.length : Int)) = true := decide_eq_true (by omega)
        have g2 : (j + 1 = l.length) = True := eq_true hlast2
        ((with_reducible first | apply WO2_finw | apply WO2_fina); ((conv => lhs; simp only [go_sem, ibin, ishift]) <;> with_reducible rfl))
        have f1 : decide (((j + 1 : Nat) : Int) < (l.length : Int)) = false := decide_eq_false (by omega)
        have f4 : (((j + 2 : Nat) : Int) ≤ (l.length : Int)) = False := eq_false (by omega)
        (repeat' with_reducible first | refine thn2_nrm ?_ | refine thn2_ret ?_ | refine thn2_ex ?_ | refine blk2_nrm ?_ | refine blk2_ret ?_ | refine blk2_at ?_ | (refine blk2_ex ?_ ?_; decide) | refine W2_sas ?_ | refine W2_ss ?_ | refine W2_sret ?_ | refine W2_sexit ?_ | ((first | apply W2_sra | apply W2_srda | apply W2_runa | apply W2_runda); (conv => lhs; simp only [go_sem, ibin, ishift, hw, hw2, hlast, f4, g1, g2]) <;> rfl) | ((first | apply W2_sct | apply W2_t2); (conv => lhs; simp only [go_sem]) <;> rfl; rfl) | ((first | apply W2_scf | apply W2_f2); (conv => lhs; simp only [go_sem]) <;> rfl; rfl) | refine W2_ret ?_ | refine W2_exit ?_ | refine W2_skip ?_ | refine W2_seq ?_ | refine W2_block ?_)
        refine ⟨[0, 1, 2, 3], by decide, rfl, ?_⟩
        exact ⟨l.length - (j + 1), by omega, j + 1, by omega, rfl, rfl⟩
    · have : j = l.length := by omega
      subst this
      have hho : (rowT n (l.drop l.length)).holder (n : Int) = 0 := by rw [List.drop_length]; exact row_holder hn5
      generalize rowT n (l.drop l.length) = tj at hho
      (repeat' with_reducible first | refine thn2_nrm ?_ | refine thn2_ret ?_ | refine thn2_ex ?_ | refine blk2_nrm ?_ | refine blk2_ret ?_ | refine blk2_at ?_ | (refine blk2_ex ?_ ?_; decide) | refine W2_sas ?_ | refine W2_ss ?_ | refine W2_sret ?_ | refine W2_sexit ?_ | ((first | apply W2_sra | apply W2_srda | apply W2_runa | apply W2_runda); (conv => lhs; simp only [go_sem, ibin, ishift]) <;> rfl) | ((first | apply W2_sct | apply W2_t2); (conv => lhs; simp only [go_sem]) <;> rfl; rfl) | ((first | apply W2_scf | apply W2_f2); (conv => lhs; simp only [go_sem]) <;> rfl; rfl) | refine W2_ret ?_ | refine W2_exit ?_ | refine W2_skip ?_ | refine W2_seq ?_ | refine W2_block ?_)
      ((with_reducible first | apply W2_scall | apply W2_scalld | apply W2_calla | apply W2_callda | apply run2a_sound); ((conv => lhs; simp only [go_sem, ibin, ishift]) <;> with_reducible rfl))
      refine CK_call [0, 1, 2] (holder_spec c.toTabC3 tj (n : Int)) (by decide) (by simp) rfl rfl rfl ?_
      rintro v h' ⟨rfl, rfl⟩
      rw [hho]
      ((with_reducible first | apply WO2_finw | apply WO2_fina); ((conv => lhs; simp only [go_sem, ibin, ishift]) <;> with_reducible rfl))
      (repeat' with_reducible first | refine thn2_nrm ?_ | refine thn2_ret ?_ | refine thn2_ex ?_ | refine blk2_nrm ?_ | refine blk2_ret ?_ | refine blk2_at ?_ | (refine blk2_ex ?_ ?_; decide) | refine W2_sas ?_ | refine W2_ss ?_ | refine W2_sret ?_ | refine W2_sexit ?_ | ((first | apply W2_sra | apply W2_srda | apply W2_runa | apply W2_runda); (conv => lhs; simp only [go_sem, ibin, ishift]) <;> rfl) | ((first | apply W2_sct | apply W2_t2); (conv => lhs; simp only [go_sem]) <;> rfl; rfl) | ((first | apply W2_scf | apply W2_f2); (conv => lhs; simp only [go_sem]) <;> rfl; rfl) | refine W2_ret ?_ | refine W2_exit ?_ | refine W2_skip ?_ | refine W2_seq ?_ | refine W2_block ?_)
      refine ⟨by first | exact .inr rfl | exact .inl rfl, _, _, (by (conv => lhs; simp only [go_sem, ibin, ishift]) <;> with_reducible rfl), (by (conv => lhs; simp only [go_sem, ibin, ishift]) <;> with_reducible rfl), ?_⟩
      refine ⟨[], by decide, rfl, ?_⟩
      rfl
end Go.Proofs.Ytpgoemmjhnnmoaa.Ab
