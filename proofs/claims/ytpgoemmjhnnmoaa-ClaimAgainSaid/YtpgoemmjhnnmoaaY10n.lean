/- Chapter 10: ClaimAgain, the walk. -/
import Derived.Test.YtpgoemmjhnnmoaaY10m
namespace Go.Proofs.Ytpgoemmjhnnmoaa.Ab
open Go
set_option linter.unusedVariables false
set_option linter.unusedSimpArgs false
variable {T : AT}
theorem u64_id (n : Nat) (h : n ≤ 1000000) : IntKind.u64.wrap (n : Int) = (n : Int) := by
  simp only [IntKind.wrap, IntKind.bits]
  exact Int.emod_eq_of_lt (by omega) (by omega)
theorem claimAgain_law (c : TabL10 T) (hT : T i_stillagelaw10_ClaimAgain = some (.fn c_stillagelaw10_ClaimAgain)) (n0 t0 : Int) (more : List Int) : Ret2 T 0 i_stillagelaw10_ClaimAgain [.i .i64 n0, .i .i64 t0, .fz 1 (more.map cI)] [] (fun v h' => v = .b true) := by
  refine Ret2_fnv hT rfl rfl ?_
  (repeat' with_reducible first | refine thn2_nrm ?_ | refine thn2_ret ?_ | refine thn2_ex ?_ | refine blk2_nrm ?_ | refine blk2_ret ?_ | refine blk2_at ?_ | (refine blk2_ex ?_ ?_; decide) | refine W2_sas ?_ | refine W2_ss ?_ | refine W2_sret ?_ | refine W2_sexit ?_ | ((first | apply W2_sra | apply W2_srda | apply W2_runa | apply W2_runda); (conv => lhs; simp only [go_sem, ibin, ishift]) <;> rfl) | ((first | apply W2_sct | apply W2_t2); (conv => lhs; simp only [go_sem]) <;> rfl; rfl) | ((first | apply W2_scf | apply W2_f2); (conv => lhs; simp only [go_sem]) <;> rfl; rfl) | refine W2_ret ?_ | refine W2_exit ?_ | refine W2_skip ?_ | refine W2_seq ?_ | refine W2_block ?_)
  ((with_reducible first | apply W2_scall | apply W2_scalld | apply W2_calla | apply W2_callda | apply run2a_sound); ((conv => lhs; simp only [go_sem, ibin, ishift]) <;> with_reducible rfl))
  refine CK_pure (always2 c.awake) rfl ?_
  rintro v h' ⟨rfl, rfl⟩
  ((with_reducible first | apply WO2_finw | apply WO2_fina); ((conv => lhs; simp only [go_sem, ibin, ishift]) <;> with_reducible rfl))
  obtain ⟨d, hd, hd2⟩ := below n0 39 (by omega) (by omega)
  have hd : IntKind.i64.wrap ((IntKind.u64.wrap n0).tmod 39) = (d : Int) := hd
  obtain ⟨b, hb, hb2⟩ := below t0 30 (by omega) (by omega)
  have hb : IntKind.i64.wrap ((IntKind.u64.wrap t0).tmod 30) = (b : Int) := hb
  obtain ⟨N, hN⟩ : ∃ N, N = d + 2 := ⟨_, rfl⟩
  obtain ⟨o, ho⟩ : ∃ o, o = b + 1 := ⟨_, rfl⟩
  have e1 : IntKind.i64.wrap ((d : Int) + 2) = (N : Int) := by rw [wi _ (by omega) (by omega)]; omega
  have e2 : IntKind.i64.wrap ((b : Int) + 1) = (o : Int) := by rw [wi _ (by omega) (by omega)]; omega
  have n1 : ((39 : Int) = 0) = False := by simp
  have n2 : ((30 : Int) = 0) = False := by simp
  (repeat' with_reducible first | refine thn2_nrm ?_ | refine thn2_ret ?_ | refine thn2_ex ?_ | refine blk2_nrm ?_ | refine blk2_ret ?_ | refine blk2_at ?_ | (refine blk2_ex ?_ ?_; decide) | refine W2_sas ?_ | refine W2_ss ?_ | refine W2_sret ?_ | refine W2_sexit ?_ | ((first | apply W2_sra | apply W2_srda | apply W2_runa | apply W2_runda); (conv => lhs; simp only [go_sem, ibin, ishift, hd, hb, e1, e2, n1, n2]) <;> rfl) | ((first | apply W2_sct | apply W2_t2); (conv => lhs; simp only [go_sem]) <;> rfl; rfl) | ((first | apply W2_scf | apply W2_f2); (conv => lhs; simp only [go_sem]) <;> rfl; rfl) | refine W2_ret ?_ | refine W2_exit ?_ | refine W2_skip ?_ | refine W2_seq ?_ | refine W2_block ?_)
  ((with_reducible first | apply W2_scall | apply W2_scalld | apply W2_calla | apply W2_callda | apply run2a_sound); ((conv => lhs; simp only [go_sem, ibin, ishift]) <;> with_reducible rfl))
  refine CK_pure (new_spec c.toTabC3 (N : Int)) rfl ?_
  rintro v h' ⟨_, hn2⟩
  obtain ⟨rfl, rfl⟩ := hn2 (by omega) (by omega)
  rw [Int.toNat_natCast]
  obtain ⟨p1, p2, p3⟩ := sole_seize_first (N := N) (tote := (o : Int)) (by omega) (by omega) (by omega)
  unfold Tab.h
  ((with_reducible first | apply WO2_finw | apply WO2_fina); ((conv => lhs; simp only [go_sem, ibin, ishift]) <;> with_reducible rfl))
  (repeat' with_reducible first | refine thn2_nrm ?_ | refine thn2_ret ?_ | refine thn2_ex ?_ | refine blk2_nrm ?_ | refine blk2_ret ?_ | refine blk2_at ?_ | (refine blk2_ex ?_ ?_; decide) | refine W2_sas ?_ | refine W2_ss ?_ | refine W2_sret ?_ | refine W2_sexit ?_ | ((first | apply W2_sra | apply W2_srda | apply W2_runa | apply W2_runda); (conv => lhs; simp only [go_sem, ibin, ishift]) <;> rfl) | ((first | apply W2_sct | apply W2_t2); (conv => lhs; simp only [go_sem]) <;> rfl; rfl) | ((first | apply W2_scf | apply W2_f2); (conv => lhs; simp only [go_sem]) <;> rfl; rfl) | refine W2_ret ?_ | refine W2_exit ?_ | refine W2_skip ?_ | refine W2_seq ?_ | refine W2_block ?_)
  ((with_reducible first | apply W2_scall | apply W2_scalld | apply W2_calla | apply W2_callda | apply run2a_sound); ((conv => lhs; simp only [go_sem, ibin, ishift]) <;> with_reducible rfl))
  refine CK_call [0, 1, 2] (seize_spec c.toTabC5 (emp N) (o : Int) 0) (by decide) (by simp) rfl rfl rfl ?_
  rintro v h' ⟨rfl, rfl⟩
  rw [p1]
  have p3 : (⟨(List.replicate N 0).set 0 (o : Int), []⟩ : Tab).hold[0]? = some (o : Int) := p3
  generalize (⟨(List.replicate N 0).set 0 (o : Int), []⟩ : Tab) = t1 at p2 p3
  clear p1
  unfold Tab.h
  ((with_reducible first | apply WO2_finw | apply WO2_fina); ((conv => lhs; simp only [go_sem, ibin, ishift]) <;> with_reducible rfl))
  (repeat' with_reducible first | refine thn2_nrm ?_ | refine thn2_ret ?_ | refine thn2_ex ?_ | refine blk2_nrm ?_ | refine blk2_ret ?_ | refine blk2_at ?_ | (refine blk2_ex ?_ ?_; decide) | refine W2_sas ?_ | refine W2_ss ?_ | refine W2_sret ?_ | refine W2_sexit ?_ | ((first | apply W2_sra | apply W2_srda | apply W2_runa | apply W2_runda); (conv => lhs; simp only [go_sem, ibin, ishift]) <;> rfl) | ((first | apply W2_sct | apply W2_t2); (conv => lhs; simp only [go_sem]) <;> rfl; rfl) | ((first | apply W2_scf | apply W2_f2); (conv => lhs; simp only [go_sem]) <;> rfl; rfl) | refine W2_ret ?_ | refine W2_exit ?_ | refine W2_skip ?_ | refine W2_seq ?_ | refine W2_block ?_)
  refine W2_loopv (fun m e h => ∃ i t ns, i + m = 10 ∧ Sole N o t ∧ t.hold[0]? = some (o : Int) ∧ inB N ns ∧ (0 : Int) ∈ ns ∧ ns.length = i + 1 ∧ e = [(0, .i .i64 N), (1, .i .i64 o), (2, .fz 1 (more.map cI)), (7, .ptr 0 0), (9, .sl 1 3 0 ns.length none), (10, .i .i64 i)] ∧
    h = [some (.obj [.sl 1 1 0 t.hold.length none, .sl 2 2 0 t.q.length none]), some (.arr 1 (t.hold.map cI)), some (.arr 2 (t.q.map cQ)), some (.arr 1 (ns.map cI))]) 10 ⟨0, t1, [0], by omega, p2, p3, by intro n hn; simp at hn; omega, by simp, rfl, rfl, rfl⟩ ?_
  rintro m e h ⟨i, t, ns, hi, hS, h0, hin, hz, hnl, rfl, rfl⟩
  (repeat' with_reducible first | refine thn2_nrm ?_ | refine thn2_ret ?_ | refine thn2_ex ?_ | refine blk2_nrm ?_ | refine blk2_ret ?_ | refine blk2_at ?_ | (refine blk2_ex ?_ ?_; decide) | refine W2_sas ?_ | refine W2_ss ?_ | refine W2_sret ?_ | refine W2_sexit ?_ | ((first | apply W2_sra | apply W2_srda | apply W2_runa | apply W2_runda); (conv => lhs; simp only [go_sem, ibin, ishift]) <;> rfl) | ((first | apply W2_sct | apply W2_t2); (conv => lhs; simp only [go_sem]) <;> rfl; rfl) | ((first | apply W2_scf | apply W2_f2); (conv => lhs; simp only [go_sem]) <;> rfl; rfl) | refine W2_ret ?_ | refine W2_exit ?_ | refine W2_skip ?_ | refine W2_seq ?_ | refine W2_block ?_)
  (((first | with_reducible apply W2_sc | with_reducible apply W2_cond); ((conv => lhs; simp only [go_sem]) <;> with_reducible rfl)) <;> intro hx <;> (try rw [hx]) <;> simp only [Bool.or_eq_true, Bool.and_eq_true, decide_eq_true_eq, Bool.or_eq_false_iff, Bool.and_eq_false_iff, decide_eq_false_iff_not, Bool.not_eq_true', Bool.not_eq_false', bne_iff_ne, beq_iff_eq, not_or, not_and, Decidable.not_not, ne_eq, gt_iff_lt, ge_iff_le, Int.not_lt, Int.not_le] at hx)
  · have hi10 : i < 10 := by omega
    have him : i < more.length := by omega
    have hg := List.getElem?_eq_getElem him
    generalize more[i] = x at hg
    obtain ⟨y, hy, hy2⟩ := below x N (by omega) (by omega)
    have f1 := u64_id N (by omega)
    have f2 : ((N : Int) = 0) = False := eq_false (by omega)
    have hroom : (ns.length + 1) * 8 ≤ room := by simp only [room]; omega
    have hmi : (i : Int) < (more.length : Int) := by omega
    have hsp := sole_put (ns := ns ++ [(y : Int)]) hS (by omega) (by omega) (fun n hn => by
      rcases List.mem_append.1 hn with h | h
      · exact hin n h
      · simp at h; omega) (by simp [hz]) (by omega)
    obtain ⟨q1, q2, q3⟩ := hsp
    (repeat' with_reducible first | refine thn2_nrm ?_ | refine thn2_ret ?_ | refine thn2_ex ?_ | refine blk2_nrm ?_ | refine blk2_ret ?_ | refine blk2_at ?_ | (refine blk2_ex ?_ ?_; decide) | refine W2_sas ?_ | refine W2_ss ?_ | refine W2_sret ?_ | refine W2_sexit ?_ | ((first | apply W2_sra | apply W2_srda | apply W2_runa | apply W2_runda); (conv => lhs; simp only [go_sem, ibin, ishift, hg, him, hmi, hy, f1, f2, hroom, cI]) <;> rfl) | ((first | apply W2_sct | apply W2_t2); (conv => lhs; simp only [go_sem]) <;> rfl; rfl) | ((first | apply W2_scf | apply W2_f2); (conv => lhs; simp only [go_sem]) <;> rfl; rfl) | refine W2_ret ?_ | refine W2_exit ?_ | refine W2_skip ?_ | refine W2_seq ?_ | refine W2_block ?_)
    ((with_reducible first | apply W2_scall | apply W2_scalld | apply W2_calla | apply W2_callda | apply run2a_sound); ((conv => lhs; simp only [go_sem, ibin, ishift]) <;> with_reducible rfl))
    refine CK_call [0, 5, 1, 2] (claim_m c.toTabC5 t (hS.ok (by omega)) (by rw [hS.q]; simp) (o : Int) (ns ++ [(y : Int)]) (by simp; omega)) (by decide) (by simp) rfl (by rw [List.length_append]; rfl) (by simp only [Tab.hl, List.map_append]; rfl) ?_
    rintro v h' ⟨rfl, rfl⟩
    rw [q1]
    have q3 : (⟨markL t.hold (ns ++ [(y : Int)]) o, []⟩ : Tab).hold[0]? = some (o : Int) := q3
    generalize (⟨markL t.hold (ns ++ [(y : Int)]) o, []⟩ : Tab) = t2 at q2 q3
    unfold Tab.hl
    ((with_reducible first | apply WO2_finw | apply WO2_fina); ((conv => lhs; simp only [go_sem, ibin, ishift]) <;> with_reducible rfl))
    (repeat' with_reducible first | refine thn2_nrm ?_ | refine thn2_ret ?_ | refine thn2_ex ?_ | refine blk2_nrm ?_ | refine blk2_ret ?_ | refine blk2_at ?_ | (refine blk2_ex ?_ ?_; decide) | refine W2_sas ?_ | refine W2_ss ?_ | refine W2_sret ?_ | refine W2_sexit ?_ | ((first | apply W2_sra | apply W2_srda | apply W2_runa | apply W2_runda); (conv => lhs; simp only [go_sem, ibin, ishift, wS (show i < 9223372036854775807 by omega)]) <;> rfl) | ((first | apply W2_sct | apply W2_t2); (conv => lhs; simp only [go_sem]) <;> rfl; rfl) | ((first | apply W2_scf | apply W2_f2); (conv => lhs; simp only [go_sem]) <;> rfl; rfl) | refine W2_ret ?_ | refine W2_exit ?_ | refine W2_skip ?_ | refine W2_seq ?_ | refine W2_block ?_)
    refine ⟨[0, 1, 2, 5], by decide, rfl, ?_⟩
    refine ⟨10 - (i + 1), by omega, i + 1, t2, ns ++ [(y : Int)], by omega, q2, q3, fun n hn => ?_, by simp [hz], by simp [hnl], (by rw [List.length_append]; first | rfl | ((conv => lhs; simp only [go_sem, ibin, ishift]) <;> rfl)), rfl⟩
    rcases List.mem_append.1 hn with h | h
    · exact hin n h
    · simp at h; omega
  · obtain ⟨r, hr⟩ : ∃ r : Nat, IntKind.i64.wrap (((o : Int).tmod 30) + 1) = (r : Int) ∧ 1 ≤ r ∧ r ≤ 30 ∧ r ≠ o := by
      rw [Int.tmod_eq_emod_of_nonneg (by omega), wi _ (by omega) (by omega)]
      exact ⟨((o : Int) % 30 + 1).toNat, by omega, by omega, by omega, by omega⟩
    obtain ⟨hr, r1, r2, r3⟩ := hr
    have hsz := seize_held hS h0 (other := (r : Int)) (by omega) (by omega) (by omega) (by omega) (by omega)
    (repeat' with_reducible first | refine thn2_nrm ?_ | refine thn2_ret ?_ | refine thn2_ex ?_ | refine blk2_nrm ?_ | refine blk2_ret ?_ | refine blk2_at ?_ | (refine blk2_ex ?_ ?_; decide) | refine W2_sas ?_ | refine W2_ss ?_ | refine W2_sret ?_ | refine W2_sexit ?_ | ((first | apply W2_sra | apply W2_srda | apply W2_runa | apply W2_runda); (conv => lhs; simp only [go_sem, ibin, ishift, n2, hr]) <;> rfl) | ((first | apply W2_sct | apply W2_t2); (conv => lhs; simp only [go_sem]) <;> rfl; rfl) | ((first | apply W2_scf | apply W2_f2); (conv => lhs; simp only [go_sem]) <;> rfl; rfl) | refine W2_ret ?_ | refine W2_exit ?_ | refine W2_skip ?_ | refine W2_seq ?_ | refine W2_block ?_)
    ((with_reducible first | apply W2_scall | apply W2_scalld | apply W2_calla | apply W2_callda | apply run2a_sound); ((conv => lhs; simp only [go_sem, ibin, ishift, n2, hr]) <;> with_reducible rfl))
    refine CK_call [0, 1, 2] (seize_spec c.toTabC5 t (r : Int) 0) (by decide) (by simp) rfl rfl rfl ?_
    rintro v h' ⟨rfl, rfl⟩
    rw [hsz]
    unfold Tab.h
    ((with_reducible first | apply WO2_finw | apply WO2_fina); ((conv => lhs; simp only [go_sem, ibin, ishift]) <;> with_reducible rfl))
    (repeat' with_reducible first | refine thn2_nrm ?_ | refine thn2_ret ?_ | refine thn2_ex ?_ | refine blk2_nrm ?_ | refine blk2_ret ?_ | refine blk2_at ?_ | (refine blk2_ex ?_ ?_; decide) | refine W2_sas ?_ | refine W2_ss ?_ | refine W2_sret ?_ | refine W2_sexit ?_ | ((first | apply W2_sra | apply W2_srda | apply W2_runa | apply W2_runda); (conv => lhs; simp only [go_sem, ibin, ishift]) <;> rfl) | ((first | apply W2_sct | apply W2_t2); (conv => lhs; simp only [go_sem]) <;> rfl; rfl) | ((first | apply W2_scf | apply W2_f2); (conv => lhs; simp only [go_sem]) <;> rfl; rfl) | refine W2_ret ?_ | refine W2_exit ?_ | refine W2_skip ?_ | refine W2_seq ?_ | refine W2_block ?_)
    ((with_reducible first | apply W2_scall | apply W2_scalld | apply W2_calla | apply W2_callda | apply run2a_sound); ((conv => lhs; simp only [go_sem, ibin, ishift]) <;> with_reducible rfl))
    refine CK_call [0, 1, 2] (held_spec c.toTabC3 t (o : Int) (by rw [hS.len]; omega)) (by decide) (by simp) rfl rfl rfl ?_
    rintro v h' ⟨rfl, rfl⟩
    have hB := back_first hS (by omega)
    have hnd : (t.held (o : Int)).Nodup := heldF_nodup (by omega) _ _
    have hall : ∀ x ∈ t.held (o : Int), 0 ≤ x := fun x hx => by
      obtain ⟨k, _, hk⟩ := (heldF_mem (by omega) _ _ _).1 hx
      omega
    have hll : (t.held (o : Int)).length ≤ 1000000 := by
      have := heldF_len (o : Int) 0 t.hold
      have := hS.len
      simp only [Tab.held]; omega
    generalize t.held (o : Int) = l at hB hnd hall hll
    unfold Tab.h
    ((with_reducible first | apply WO2_finw | apply WO2_fina); ((conv => lhs; simp only [go_sem, ibin, ishift]) <;> with_reducible rfl))
    refine W2.wview [0, 1, 2] (by decide) rfl (by (conv => lhs; simp only [go_sem, ibin, ishift]) <;> with_reducible rfl) (by (conv => lhs; simp only [go_sem, ibin, ishift]) <;> with_reducible rfl) ?_
    (repeat' with_reducible first | refine thn2_nrm ?_ | refine thn2_ret ?_ | refine thn2_ex ?_ | refine blk2_nrm ?_ | refine blk2_ret ?_ | refine blk2_at ?_ | (refine blk2_ex ?_ ?_; decide) | refine W2_sas ?_ | refine W2_ss ?_ | refine W2_sret ?_ | refine W2_sexit ?_ | ((first | apply W2_sra | apply W2_srda | apply W2_runa | apply W2_runda); (conv => lhs; simp only [go_sem, ibin, ishift]) <;> rfl) | ((first | apply W2_sct | apply W2_t2); (conv => lhs; simp only [go_sem]) <;> rfl; rfl) | ((first | apply W2_scf | apply W2_f2); (conv => lhs; simp only [go_sem]) <;> rfl; rfl) | refine W2_ret ?_ | refine W2_exit ?_ | refine W2_skip ?_ | refine W2_seq ?_ | refine W2_block ?_)
    refine W2_loopv (fun m e h => ∃ i t, i + m = l.length ∧ Back N o l i t ∧ e = [(1, .i .i64 o), (7, .ptr 0 0), (13, .i .i64 r), (92, .fz 1 (l.map cI)), (93, .i .i64 l.length), (94, .i .i64 i)] ∧ h = t.h) l.length ⟨0, t, by omega, hB, rfl, rfl⟩ ?_
    clear hB hS h0
    rintro m e h ⟨i, t, hi, hB, rfl, rfl⟩
    unfold Tab.h
    (repeat' with_reducible first | refine thn2_nrm ?_ | refine thn2_ret ?_ | refine thn2_ex ?_ | refine blk2_nrm ?_ | refine blk2_ret ?_ | refine blk2_at ?_ | (refine blk2_ex ?_ ?_; decide) | refine W2_sas ?_ | refine W2_ss ?_ | refine W2_sret ?_ | refine W2_sexit ?_ | ((first | apply W2_sra | apply W2_srda | apply W2_runa | apply W2_runda); (conv => lhs; simp only [go_sem, ibin, ishift]) <;> rfl) | ((first | apply W2_sct | apply W2_t2); (conv => lhs; simp only [go_sem]) <;> rfl; rfl) | ((first | apply W2_scf | apply W2_f2); (conv => lhs; simp only [go_sem]) <;> rfl; rfl) | refine W2_ret ?_ | refine W2_exit ?_ | refine W2_skip ?_ | refine W2_seq ?_ | refine W2_block ?_)
    (((first | with_reducible apply W2_sc | with_reducible apply W2_cond); ((conv => lhs; simp only [go_sem]) <;> with_reducible rfl)) <;> intro hx <;> (try rw [hx]) <;> simp only [Bool.or_eq_true, Bool.and_eq_true, decide_eq_true_eq, Bool.or_eq_false_iff, Bool.and_eq_false_iff, decide_eq_false_iff_not, Bool.not_eq_true', Bool.not_eq_false', bne_iff_ne, beq_iff_eq, not_or, not_and, Decidable.not_not, ne_eq, gt_iff_lt, ge_iff_le, Int.not_lt, Int.not_le] at hx)
    · have hil : i < l.length := by omega
      have hg := List.getElem?_eq_getElem hil
      have hx0 := hall _ (List.getElem_mem hil)
      generalize l[i] = x at hg hx0
      obtain ⟨y, rfl⟩ := Int.eq_ofNat_of_zero_le hx0
      obtain ⟨s1, s2⟩ := back_step hB hnd hg (by omega) (by omega)
      (repeat' with_reducible first | refine thn2_nrm ?_ | refine thn2_ret ?_ | refine thn2_ex ?_ | refine blk2_nrm ?_ | refine blk2_ret ?_ | refine blk2_at ?_ | (refine blk2_ex ?_ ?_; decide) | refine W2_sas ?_ | refine W2_ss ?_ | refine W2_sret ?_ | refine W2_sexit ?_ | ((first | apply W2_sra | apply W2_srda | apply W2_runa | apply W2_runda); (conv => lhs; simp only [go_sem, ibin, ishift, hg, cI]) <;> rfl) | ((first | apply W2_sct | apply W2_t2); (conv => lhs; simp only [go_sem]) <;> rfl; rfl) | ((first | apply W2_scf | apply W2_f2); (conv => lhs; simp only [go_sem]) <;> rfl; rfl) | refine W2_ret ?_ | refine W2_exit ?_ | refine W2_skip ?_ | refine W2_seq ?_ | refine W2_block ?_)
      ((with_reducible first | apply W2_scall | apply W2_scalld | apply W2_calla | apply W2_callda | apply run2a_sound); ((conv => lhs; simp only [go_sem, ibin, ishift]) <;> with_reducible rfl))
      refine CK_call [0, 1, 2] (release_spec c.toTabC5 t (hB.ok (by omega)) (by rw [hB.q]; simp) (o : Int) (y : Int)) (by decide) (by simp) rfl rfl rfl ?_
      rintro v h' ⟨rfl, rfl⟩
      rw [s1]
      generalize (⟨t.hold.set y 0, []⟩ : Tab) = t2 at s2
      unfold Tab.h
      ((with_reducible first | apply WO2_finw | apply WO2_fina); ((conv => lhs; simp only [go_sem, ibin, ishift]) <;> with_reducible rfl))
      (repeat' with_reducible first | refine thn2_nrm ?_ | refine thn2_ret ?_ | refine thn2_ex ?_ | refine blk2_nrm ?_ | refine blk2_ret ?_ | refine blk2_at ?_ | (refine blk2_ex ?_ ?_; decide) | refine W2_sas ?_ | refine W2_ss ?_ | refine W2_sret ?_ | refine W2_sexit ?_ | ((first | apply W2_sra | apply W2_srda | apply W2_runa | apply W2_runda); (conv => lhs; simp only [go_sem, ibin, ishift, wS (show i < 9223372036854775807 by omega)]) <;> rfl) | ((first | apply W2_sct | apply W2_t2); (conv => lhs; simp only [go_sem]) <;> rfl; rfl) | ((first | apply W2_scf | apply W2_f2); (conv => lhs; simp only [go_sem]) <;> rfl; rfl) | refine W2_ret ?_ | refine W2_exit ?_ | refine W2_skip ?_ | refine W2_seq ?_ | refine W2_block ?_)
      refine ⟨[0, 1, 2], by decide, rfl, ?_⟩
      exact ⟨l.length - (i + 1), by omega, i + 1, t2, by omega, s2, rfl, rfl⟩
    · have : i = l.length := by omega
      subst this
      have hhe := back_end hB (by omega)
      obtain ⟨s1, s2⟩ := back_seize hB (other := (r : Int)) (by omega) (by omega) (by omega)
      (repeat' with_reducible first | refine thn2_nrm ?_ | refine thn2_ret ?_ | refine thn2_ex ?_ | refine blk2_nrm ?_ | refine blk2_ret ?_ | refine blk2_at ?_ | (refine blk2_ex ?_ ?_; decide) | refine W2_sas ?_ | refine W2_ss ?_ | refine W2_sret ?_ | refine W2_sexit ?_ | ((first | apply W2_sra | apply W2_srda | apply W2_runa | apply W2_runda); (conv => lhs; simp only [go_sem, ibin, ishift]) <;> rfl) | ((first | apply W2_sct | apply W2_t2); (conv => lhs; simp only [go_sem]) <;> rfl; rfl) | ((first | apply W2_scf | apply W2_f2); (conv => lhs; simp only [go_sem]) <;> rfl; rfl) | refine W2_ret ?_ | refine W2_exit ?_ | refine W2_skip ?_ | refine W2_seq ?_ | refine W2_block ?_)
      ((with_reducible first | apply W2_scall | apply W2_scalld | apply W2_calla | apply W2_callda | apply run2a_sound); ((conv => lhs; simp only [go_sem, ibin, ishift]) <;> with_reducible rfl))
      refine CK_call [0, 1, 2] (held_spec c.toTabC3 t (o : Int) (by rw [hB.len]; omega)) (by decide) (by simp) rfl rfl rfl ?_
      rintro v h' ⟨rfl, rfl⟩
      rw [hhe]
      unfold Tab.h
      ((with_reducible first | apply W2_scall | apply W2_scalld | apply W2_calla | apply W2_callda | apply run2a_sound); ((conv => lhs; simp only [go_sem, ibin, ishift]) <;> with_reducible rfl))
      refine CK_call [0, 1, 2] (seize_spec c.toTabC5 t (r : Int) 0) (by decide) (by simp) rfl rfl rfl ?_
      rintro v h' ⟨rfl, rfl⟩
      rw [s1]
      generalize (⟨t.hold.set 0 (r : Int), []⟩ : Tab) = t2 at s2
      unfold Tab.h
      ((with_reducible first | apply W2_scall | apply W2_scalld | apply W2_calla | apply W2_callda | apply run2a_sound); ((conv => lhs; simp only [go_sem, ibin, ishift]) <;> with_reducible rfl))
      refine CK_call [0, 1, 2] (holder_spec c.toTabC3 t2 0) (by decide) (by simp) rfl rfl rfl ?_
      rintro v h' ⟨rfl, rfl⟩
      rw [s2]
      ((with_reducible first | apply WO2_finw | apply WO2_fina); ((conv => lhs; simp only [go_sem, ibin, ishift]) <;> with_reducible rfl))
      (repeat' with_reducible first | refine thn2_nrm ?_ | refine thn2_ret ?_ | refine thn2_ex ?_ | refine blk2_nrm ?_ | refine blk2_ret ?_ | refine blk2_at ?_ | (refine blk2_ex ?_ ?_; decide) | refine W2_sas ?_ | refine W2_ss ?_ | refine W2_sret ?_ | refine W2_sexit ?_ | ((first | apply W2_sra | apply W2_srda | apply W2_runa | apply W2_runda); (conv => lhs; simp only [go_sem, ibin, ishift]) <;> rfl) | ((first | apply W2_sct | apply W2_t2); (conv => lhs; simp only [go_sem]) <;> rfl; rfl) | ((first | apply W2_scf | apply W2_f2); (conv => lhs; simp only [go_sem]) <;> rfl; rfl) | refine W2_ret ?_ | refine W2_exit ?_ | refine W2_skip ?_ | refine W2_seq ?_ | refine W2_block ?_)
      refine ⟨by first | exact .inr rfl | exact .inl rfl, _, _, (by (conv => lhs; simp only [go_sem, ibin, ishift]) <;> with_reducible rfl), (by (conv => lhs; simp only [go_sem, ibin, ishift]) <;> with_reducible rfl), ?_⟩
      refine ⟨[], by decide, rfl, ?_⟩
      rfl
end Go.Proofs.Ytpgoemmjhnnmoaa.Ab
