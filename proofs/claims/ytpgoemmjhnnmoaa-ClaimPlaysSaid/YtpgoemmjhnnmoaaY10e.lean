/- Chapter 10: grants. -/
import Derived.Test.YtpgoemmjhnnmoaaY10d
namespace Go.Proofs.Ytpgoemmjhnnmoaa.Ab
open Go
set_option linter.unusedVariables false
set_option linter.unusedSimpArgs false
variable {T : AT}
structure TabC4 (T : AT) : Prop extends TabC3 T where
  grants : T i_claim_Table_grants = some (.fn c_claim_Table_grants)
def grants : Nat → Tab → List Int → Tab × List Int
  | 0, t, out => (t, out)
  | f + 1, t, out =>
    match scan t.hold (List.replicate t.hold.length false) t.q with
    | none => (t, out)
    | some i =>
      match t.q[i]? with
      | none => (t, out)
      | some c => grants f ⟨markL t.hold c.ns c.t, t.q.eraseIdx i⟩ (out ++ [c.t])
structure Tab.Ok (t : Tab) : Prop where
  q : ∀ c ∈ t.q, inB t.hold.length c.ns ∧ c.ns.length ≤ 1000000
  hl : t.hold.length ≤ 1000000
theorem grants_one {t : Tab} {out : List Int} {i : Nat} {c : Clm} (hs : scan t.hold (List.replicate t.hold.length false) t.q = some i) (hc : t.q[i]? = some c) :
    grants t.q.length t out = grants (t.q.eraseIdx i).length ⟨markL t.hold c.ns c.t, t.q.eraseIdx i⟩ (out ++ [c.t]) := by
  have hi := (List.getElem?_eq_some_iff.1 hc).1
  rw [List.length_eraseIdx_of_lt hi]
  cases hq : t.q.length with
  | zero => omega
  | succ f => simp only [grants, hs, hc]; rfl
theorem grants_end {t : Tab} {out : List Int} (hs : scan t.hold (List.replicate t.hold.length false) t.q = none) : grants t.q.length t out = (t, out) := by
  cases hq : t.q.length with
  | zero => rfl
  | succ f => simp only [grants, hs]
def outH (t : Tab) (out : List Int) : SH := [some (.obj [.sl 1 1 0 t.hold.length none, .sl 2 2 0 t.q.length none]), some (.arr 1 (t.hold.map cI)), some (.arr 2 (t.q.map cQ)), some (.arr 1 (out.map cI))]
def wlH (t : Tab) (out : List Int) (wl : List Bool) : SH := [some (.obj [.sl 1 1 0 t.hold.length none, .sl 2 2 0 t.q.length none]), some (.arr 1 (t.hold.map cI)), some (.arr 2 (t.q.map cQ)), some (.arr 1 (out.map cI)), some (.arr 1 (wl.map cB))]
theorem grants_spec (c : TabC4 T) (t : Tab) (hk : t.Ok) (hl : t.q.length ≤ 1000000) : Ret2 T 1 i_claim_Table_grants [.ptr 0 0] t.h (fun v h' => v = .fz 1 ((grants t.q.length t []).2.map cI) ∧ h' = (grants t.q.length t []).1.h) := by
  refine Ret2_fnv c.grants rfl rfl ?_
  unfold Tab.h
  refine W2_sra (by (conv => lhs; simp only [go_sem, ibin, ishift]) <;> with_reducible rfl) (W2_sra (by (conv => lhs; simp only [go_sem, ibin, ishift]) <;> with_reducible rfl) ?_)
  refine W2.wnil 3 1 rfl (by (conv => lhs; simp only [go_sem, ibin, ishift]) <;> with_reducible rfl) (by (conv => lhs; simp only [go_sem, ibin, ishift]) <;> with_reducible rfl) ?_
  (repeat' with_reducible first | refine thn2_nrm ?_ | refine thn2_ret ?_ | refine thn2_ex ?_ | refine blk2_nrm ?_ | refine blk2_ret ?_ | refine blk2_at ?_ | (refine blk2_ex ?_ ?_; decide) | refine W2_sas ?_ | refine W2_ss ?_ | refine W2_sret ?_ | refine W2_sexit ?_ | refine W2_skip ?_ | ((first | apply W2_sct | apply W2_t2); (conv => lhs; simp only [go_sem]) <;> rfl; rfl) | ((first | apply W2_scf | apply W2_f2); (conv => lhs; simp only [go_sem]) <;> rfl; rfl) | refine W2_block ?_)
  generalize hG : grants t.q.length t [] = G
  refine W2_loopv (fun m e h => ∃ (t' : Tab) (out : List Int), t'.q.length = m ∧ t'.Ok ∧ out.length + t'.q.length ≤ 1000000 ∧ grants t'.q.length t' out = G ∧ e = [(0, .ptr 0 0), (3, .sl 1 3 0 out.length none)] ∧ h = outH t' out) t.q.length ⟨t, [], rfl, hk, by simpa using hl, hG, rfl, rfl⟩ ?_
  clear hG hk hl
  clear t
  rintro m e h ⟨t, out, rfl, hk, hl, hG, rfl, rfl⟩
  unfold outH
  have hr : (t.hold.length : Int) * 1 ≤ (room : Int) := by simp only [room]; have := hk.hl; omega
  have hr' : (t.hold.length : Int) ≤ (room : Int) := by simp only [room]; have := hk.hl; omega
  have hw0 : List.replicate t.hold.length [PV.b false] = (List.replicate t.hold.length false).map cB := by simp [cB]
  (repeat' with_reducible first | refine thn2_nrm ?_ | refine thn2_ret ?_ | refine thn2_ex ?_ | refine blk2_nrm ?_ | refine blk2_ret ?_ | refine blk2_at ?_ | (refine blk2_ex ?_ ?_; decide) | refine W2_sas ?_ | refine W2_ss ?_ | refine W2_sret ?_ | refine W2_sexit ?_ | ((first | apply W2_sra | apply W2_srda | apply W2_runa | apply W2_runda); (conv => lhs; simp only [go_sem, ibin, ishift, hr, hr', hw0, Int.le_refl]) <;> rfl) | ((first | apply W2_sct | apply W2_t2); (conv => lhs; simp only [go_sem]) <;> rfl; rfl) | ((first | apply W2_scf | apply W2_f2); (conv => lhs; simp only [go_sem]) <;> rfl; rfl) | refine W2_ret ?_ | refine W2_exit ?_ | refine W2_skip ?_ | refine W2_seq ?_ | refine W2_block ?_)
  refine W2_loopv (fun m e h => ∃ j wl, j + m = t.q.length ∧ wl.length = t.hold.length ∧ scan t.hold (List.replicate t.hold.length false) t.q = (scan t.hold wl (t.q.drop j)).map (· + j) ∧ e = [(0, .ptr 0 0), (3, .sl 1 3 0 out.length none), (4, .sl 1 4 0 t.hold.length none), (23, .sl 2 2 0 t.q.length none), (24, .i .i64 t.q.length), (25, .i .i64 j)] ∧ h = wlH t out wl) t.q.length ⟨0, List.replicate t.hold.length false, by omega, by simp, by simp, rfl, rfl⟩ ?_
  rintro m e h ⟨j, wl, hj, hwl, hscan, rfl, rfl⟩
  unfold wlH
  (repeat' with_reducible first | refine thn2_nrm ?_ | refine thn2_ret ?_ | refine thn2_ex ?_ | refine blk2_nrm ?_ | refine blk2_ret ?_ | refine blk2_at ?_ | (refine blk2_ex ?_ ?_; decide) | refine W2_sas ?_ | refine W2_ss ?_ | refine W2_sret ?_ | refine W2_sexit ?_ | ((first | apply W2_sra | apply W2_srda | apply W2_runa | apply W2_runda); (conv => lhs; simp only [go_sem, ibin, ishift]) <;> rfl) | ((first | apply W2_sct | apply W2_t2); (conv => lhs; simp only [go_sem]) <;> rfl; rfl) | ((first | apply W2_scf | apply W2_f2); (conv => lhs; simp only [go_sem]) <;> rfl; rfl) | refine W2_ret ?_ | refine W2_exit ?_ | refine W2_skip ?_ | refine W2_seq ?_ | refine W2_block ?_)
  (((first | with_reducible apply W2_sc | with_reducible apply W2_cond); ((conv => lhs; simp only [go_sem]) <;> with_reducible rfl)) <;> intro hx <;> (try rw [hx]) <;> simp only [Bool.or_eq_true, Bool.and_eq_true, decide_eq_true_eq, Bool.or_eq_false_iff, Bool.and_eq_false_iff, decide_eq_false_iff_not, Bool.not_eq_true', Bool.not_eq_false', bne_iff_ne, beq_iff_eq, not_or, not_and, Decidable.not_not, ne_eq, gt_iff_lt, ge_iff_le, Int.not_lt, Int.not_le] at hx)
  · have hjl : j < t.q.length := by omega
    have hg := List.getElem?_eq_getElem hjl
    have hdr : t.q.drop j = t.q[j] :: t.q.drop (j + 1) := List.drop_eq_getElem_cons hjl
    have hc := hk.q _ (List.getElem_mem hjl)
    generalize t.q[j] = cl at hg hdr hc
    rw [hdr] at hscan
    (repeat' with_reducible first | refine thn2_nrm ?_ | refine thn2_ret ?_ | refine thn2_ex ?_ | refine blk2_nrm ?_ | refine blk2_ret ?_ | refine blk2_at ?_ | (refine blk2_ex ?_ ?_; decide) | refine W2_sas ?_ | refine W2_ss ?_ | refine W2_sret ?_ | refine W2_sexit ?_ | ((first | apply W2_sra | apply W2_srda | apply W2_runa | apply W2_runda); (conv => lhs; simp only [go_sem, ibin, ishift, hg, hjl, cQ]) <;> rfl) | ((first | apply W2_sct | apply W2_t2); (conv => lhs; simp only [go_sem]) <;> rfl; rfl) | ((first | apply W2_scf | apply W2_f2); (conv => lhs; simp only [go_sem]) <;> rfl; rfl) | refine W2_ret ?_ | refine W2_exit ?_ | refine W2_skip ?_ | refine W2_seq ?_ | refine W2_block ?_)
    refine free_loop t out wl cl j hc.1 hwl hc.2 ?_
    cases hf : freeC t.hold wl cl with
    | false =>
      have hsc : scan t.hold wl (cl :: t.q.drop (j + 1)) = (scan t.hold (markL wl cl.ns true) (t.q.drop (j + 1))).map (· + 1) := by rw [scan, hf]; rfl
      unfold grE grH
      (repeat' with_reducible first | refine thn2_nrm ?_ | refine thn2_ret ?_ | refine thn2_ex ?_ | refine blk2_nrm ?_ | refine blk2_ret ?_ | refine blk2_at ?_ | (refine blk2_ex ?_ ?_; decide) | refine W2_sas ?_ | refine W2_ss ?_ | refine W2_sret ?_ | refine W2_sexit ?_ | ((first | apply W2_sra | apply W2_srda | apply W2_runa | apply W2_runda); (conv => lhs; simp only [go_sem, ibin, ishift]) <;> rfl) | ((first | apply W2_sct | apply W2_t2); (conv => lhs; simp only [go_sem]) <;> rfl; rfl) | ((first | apply W2_scf | apply W2_f2); (conv => lhs; simp only [go_sem]) <;> rfl; rfl) | refine W2_ret ?_ | refine W2_exit ?_ | refine W2_skip ?_ | refine W2_seq ?_ | refine W2_block ?_)
      refine mark_loop t out wl cl j hc.1 hwl hc.2 ?_
      unfold maE grH
      (repeat' with_reducible first | refine thn2_nrm ?_ | refine thn2_ret ?_ | refine thn2_ex ?_ | refine blk2_nrm ?_ | refine blk2_ret ?_ | refine blk2_at ?_ | (refine blk2_ex ?_ ?_; decide) | refine W2_sas ?_ | refine W2_ss ?_ | refine W2_sret ?_ | refine W2_sexit ?_ | ((first | apply W2_sra | apply W2_srda | apply W2_runa | apply W2_runda); (conv => lhs; simp only [go_sem, ibin, ishift, wS (show j < 9223372036854775807 by omega)]) <;> rfl) | ((first | apply W2_sct | apply W2_t2); (conv => lhs; simp only [go_sem]) <;> rfl; rfl) | ((first | apply W2_scf | apply W2_f2); (conv => lhs; simp only [go_sem]) <;> rfl; rfl) | refine W2_ret ?_ | refine W2_exit ?_ | refine W2_skip ?_ | refine W2_seq ?_ | refine W2_block ?_)
      refine ⟨[0, 1, 2, 3, 4], by decide, rfl, ?_⟩
      refine ⟨t.q.length - (j + 1), by omega, j + 1, markL wl cl.ns true, by omega, (markL_len _ _ _).trans hwl, ?_, rfl, rfl⟩
      rw [hscan, hsc, Option.map_map]
      congr 1
      funext x; simp only [Function.comp]; omega
    | true =>
      have hsc : scan t.hold wl (cl :: t.q.drop (j + 1)) = some 0 := by rw [scan, hf]; rfl
      rw [hsc] at hscan
      have hscan : scan t.hold (List.replicate t.hold.length false) t.q = some j := by rw [hscan]; simp
      have h1 := grants_one (out := out) hscan hg
      unfold grE grH
      (repeat' with_reducible first | refine thn2_nrm ?_ | refine thn2_ret ?_ | refine thn2_ex ?_ | refine blk2_nrm ?_ | refine blk2_ret ?_ | refine blk2_at ?_ | (refine blk2_ex ?_ ?_; decide) | refine W2_sas ?_ | refine W2_ss ?_ | refine W2_sret ?_ | refine W2_sexit ?_ | ((first | apply W2_sra | apply W2_srda | apply W2_runa | apply W2_runda); (conv => lhs; simp only [go_sem, ibin, ishift]) <;> rfl) | ((first | apply W2_sct | apply W2_t2); (conv => lhs; simp only [go_sem]) <;> rfl; rfl) | ((first | apply W2_scf | apply W2_f2); (conv => lhs; simp only [go_sem]) <;> rfl; rfl) | refine W2_ret ?_ | refine W2_exit ?_ | refine W2_skip ?_ | refine W2_seq ?_ | refine W2_block ?_)
      refine hold_loop t out wl cl j hc.1 hc.2 ?_
      unfold hoE hoH
      have hroom : (out.length + 1) * 8 ≤ room := by simp only [room]; omega
      (repeat' with_reducible first | refine thn2_nrm ?_ | refine thn2_ret ?_ | refine thn2_ex ?_ | refine blk2_nrm ?_ | refine blk2_ret ?_ | refine blk2_at ?_ | (refine blk2_ex ?_ ?_; decide) | refine W2_sas ?_ | refine W2_ss ?_ | refine W2_sret ?_ | refine W2_sexit ?_ | ((first | apply W2_sra | apply W2_srda | apply W2_runa | apply W2_runda); (conv => lhs; simp only [go_sem, ibin, ishift, hroom]) <;> rfl) | ((first | apply W2_sct | apply W2_t2); (conv => lhs; simp only [go_sem]) <;> rfl; rfl) | ((first | apply W2_scf | apply W2_f2); (conv => lhs; simp only [go_sem]) <;> rfl; rfl) | refine W2_ret ?_ | refine W2_exit ?_ | refine W2_skip ?_ | refine W2_seq ?_ | refine W2_block ?_)
      ((with_reducible first | apply W2_scall | apply W2_scalld | apply W2_calla | apply W2_callda | apply run2a_sound); ((conv => lhs; simp only [go_sem, ibin, ishift, wS (show j < 9223372036854775807 by omega)]) <;> with_reducible rfl))
      refine CK_call [2] (delete_spec c.toTabC3 t.q j hjl (by omega)) (by decide) (by simp) rfl rfl rfl ?_
      rintro v h' ⟨rfl, rfl⟩
      ((with_reducible first | apply WO2_finw | apply WO2_fina); ((conv => lhs; simp only [go_sem, ibin, ishift]) <;> with_reducible rfl))
      (repeat' with_reducible first | refine thn2_nrm ?_ | refine thn2_ret ?_ | refine thn2_ex ?_ | refine blk2_nrm ?_ | refine blk2_ret ?_ | refine blk2_at ?_ | (refine blk2_ex ?_ ?_; decide) | refine W2_sas ?_ | refine W2_ss ?_ | refine W2_sret ?_ | refine W2_sexit ?_ | ((first | apply W2_sra | apply W2_srda | apply W2_runa | apply W2_runda); (conv => lhs; simp only [go_sem, ibin, ishift]) <;> rfl) | ((first | apply W2_sct | apply W2_t2); (conv => lhs; simp only [go_sem]) <;> rfl; rfl) | ((first | apply W2_scf | apply W2_f2); (conv => lhs; simp only [go_sem]) <;> rfl; rfl) | refine W2_ret ?_ | refine W2_exit ?_ | refine W2_skip ?_ | refine W2_seq ?_ | refine W2_block ?_)
      refine ⟨[0, 1, 2, 7], by decide, rfl, ?_⟩
      have hlen : (t.q.eraseIdx j).length = t.q.length - 1 := List.length_eraseIdx_of_lt hjl
      refine ⟨(t.q.eraseIdx j).length, by omega, ⟨markL t.hold cl.ns cl.t, t.q.eraseIdx j⟩, out ++ [cl.t], rfl, ⟨fun c hc => ?_, ?_⟩, ?_, h1 ▸ hG, ?_, ?_⟩
      · simp only [markL_len]
        exact hk.q c (List.mem_of_mem_eraseIdx hc)
      · simp only [markL_len]; exact hk.hl
      · simp only [List.length_append, List.length_cons, List.length_nil]; omega
      · rw [List.length_append]; rfl
      · simp only [outH, markL_len, List.map_append]
        rfl
  · have : j = t.q.length := by omega
    subst this
    rw [List.drop_length] at hscan
    have h1 := grants_end (out := out) (hscan.trans rfl)
    rw [h1] at hG
    subst hG
    refine W2.wfrz 3 rfl (by (conv => lhs; simp only [go_sem, ibin, ishift]) <;> with_reducible rfl) (by (conv => lhs; simp only [go_sem, ibin, ishift]) <;> with_reducible rfl) ?_
    (repeat' with_reducible first | refine thn2_nrm ?_ | refine thn2_ret ?_ | refine thn2_ex ?_ | refine blk2_nrm ?_ | refine blk2_ret ?_ | refine blk2_at ?_ | (refine blk2_ex ?_ ?_; decide) | refine W2_sas ?_ | refine W2_ss ?_ | refine W2_sret ?_ | refine W2_sexit ?_ | ((first | apply W2_sra | apply W2_srda | apply W2_runa | apply W2_runda); (conv => lhs; simp only [go_sem, ibin, ishift]) <;> rfl) | ((first | apply W2_sct | apply W2_t2); (conv => lhs; simp only [go_sem]) <;> rfl; rfl) | ((first | apply W2_scf | apply W2_f2); (conv => lhs; simp only [go_sem]) <;> rfl; rfl) | refine W2_ret ?_ | refine W2_exit ?_ | refine W2_skip ?_ | refine W2_seq ?_ | refine W2_block ?_)
    refine ⟨by first | exact .inr rfl | exact .inl rfl, _, _, (by (conv => lhs; simp only [go_sem, ibin, ishift]) <;> with_reducible rfl), (by (conv => lhs; simp only [go_sem, ibin, ishift]) <;> with_reducible rfl), ?_⟩
    refine ⟨[0, 1, 2], by decide, rfl, ?_⟩
    exact ⟨rfl, rfl⟩
end Go.Proofs.Ytpgoemmjhnnmoaa.Ab
