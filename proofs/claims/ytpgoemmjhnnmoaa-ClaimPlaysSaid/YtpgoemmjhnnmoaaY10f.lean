/- Chapter 10: the calls that change the table. -/
import Derived.Test.YtpgoemmjhnnmoaaY10e
namespace Go.Proofs.Ytpgoemmjhnnmoaa.Ab
open Go
set_option linter.unusedVariables false
set_option linter.unusedSimpArgs false
variable {T : AT}
structure TabC5 (T : AT) : Prop extends TabC4 T where
  claim : T i_claim_Table_Claim = some (.fn c_claim_Table_Claim)
  release : T i_claim_Table_Release = some (.fn c_claim_Table_Release)
  drop : T i_claim_Table_Drop = some (.fn c_claim_Table_Drop)
  seize : T i_claim_Table_Seize = some (.fn c_claim_Table_Seize)
def Tab.g (t : Tab) : Tab × List Int := grants t.q.length t []
theorem grants_ok : ∀ (f : Nat) (t : Tab) (out : List Int), t.Ok → (grants f t out).1.Ok ∧ (grants f t out).1.hold.length = t.hold.length ∧ (grants f t out).1.q.length + (grants f t out).2.length = t.q.length + out.length
  | 0, t, out, h => ⟨h, rfl, rfl⟩
  | f + 1, t, out, h => by
    simp only [grants]
    split
    · exact ⟨h, rfl, rfl⟩
    · rename_i i _
      split
      · exact ⟨h, rfl, rfl⟩
      · rename_i c hc
        have hi := (List.getElem?_eq_some_iff.1 hc).1
        obtain ⟨a1, a2, a3⟩ := grants_ok f ⟨markL t.hold c.ns c.t, t.q.eraseIdx i⟩ (out ++ [c.t]) ⟨fun c' hc' => by
          simp only [markL_len]; exact h.q c' (List.mem_of_mem_eraseIdx hc'), by simp only [markL_len]; exact h.hl⟩
        refine ⟨a1, a2.trans (markL_len ..), a3.trans ?_⟩
        simp only [List.length_append, List.length_cons, List.length_nil, List.length_eraseIdx_of_lt hi]
        omega
theorem out_in {t : Tab} {tote : Int} {l : List Int} (h : t.out tote l = false) : 1 ≤ tote ∧ tote ≤ 30 ∧ inB t.hold.length l := by
  simp only [Tab.out, Bool.or_eq_false_iff, decide_eq_false_iff_not, List.any_eq_false, Tab.bad, Bool.or_eq_true, decide_eq_true_eq, not_or] at h
  exact ⟨by omega, by omega, fun n hn => by have := h.2 n hn; omega⟩
def Tab.release (t : Tab) (tote node : Int) : Tab × List Int × Int :=
  if t.out tote [node] = true then (t, [], 1) else if t.hold[node.toNat]?.getD 0 ≠ tote then (t, [], 4) else ((Tab.g ⟨t.hold.set node.toNat 0, t.q⟩).1, (Tab.g ⟨t.hold.set node.toNat 0, t.q⟩).2, 0)
theorem release_spec (c : TabC5 T) (t : Tab) (hk : t.Ok) (hl : t.q.length ≤ 1000000) (tote node : Int) : Ret2 T 1 i_claim_Table_Release [.ptr 0 0, .i .i64 tote, .i .i64 node] t.h
    (fun v h' => v = .tup [.fz 1 ((t.release tote node).2.1.map cI), .i .i64 (t.release tote node).2.2] ∧ h' = (t.release tote node).1.h) := by
  refine Ret2_fnv c.release rfl rfl ?_
  unfold Tab.h
  (repeat' with_reducible first | refine thn2_nrm ?_ | refine thn2_ret ?_ | refine thn2_ex ?_ | refine blk2_nrm ?_ | refine blk2_ret ?_ | refine blk2_at ?_ | (refine blk2_ex ?_ ?_; decide) | refine W2_sas ?_ | refine W2_ss ?_ | refine W2_sret ?_ | refine W2_sexit ?_ | ((first | apply W2_sra | apply W2_srda | apply W2_runa | apply W2_runda); (conv => lhs; simp only [go_sem, ibin, ishift]) <;> rfl) | ((first | apply W2_sct | apply W2_t2); (conv => lhs; simp only [go_sem]) <;> rfl; rfl) | ((first | apply W2_scf | apply W2_f2); (conv => lhs; simp only [go_sem]) <;> rfl; rfl) | refine W2_ret ?_ | refine W2_exit ?_ | refine W2_skip ?_ | refine W2_seq ?_ | refine W2_block ?_)
  ((with_reducible first | apply W2_scall | apply W2_scalld | apply W2_calla | apply W2_callda | apply run2a_sound); ((conv => lhs; simp only [go_sem, ibin, ishift]) <;> with_reducible rfl))
  refine CK_frz 3 rfl (args' := [.ptr 0 0, .i .i64 tote, .fz 1 ([node].map cI)]) rfl (by (conv => lhs; simp only [go_sem, ibin, ishift]) <;> with_reducible rfl) (by (conv => lhs; simp only [go_sem, ibin, ishift]) <;> with_reducible rfl) ?_
  refine CK_call [0, 1, 2] (outside_spec c.toTabC1 t tote [node] (by simp)) (by decide) (by simp) rfl rfl rfl ?_
  rintro v h' ⟨rfl, rfl⟩
  unfold Tab.h
  cases ho : t.out tote [node] with
  | true =>
    have he : t.release tote node = (t, [], 1) := by rw [Tab.release, if_pos ho]
    ((with_reducible first | apply WO2_finw | apply WO2_fina); ((conv => lhs; simp only [go_sem, ibin, ishift]) <;> with_reducible rfl))
    (repeat' with_reducible first | refine thn2_nrm ?_ | refine thn2_ret ?_ | refine thn2_ex ?_ | refine blk2_nrm ?_ | refine blk2_ret ?_ | refine blk2_at ?_ | (refine blk2_ex ?_ ?_; decide) | refine W2_sas ?_ | refine W2_ss ?_ | refine W2_sret ?_ | refine W2_sexit ?_ | refine W2_skip ?_ | ((first | apply W2_sct | apply W2_t2); (conv => lhs; simp only [go_sem]) <;> rfl; rfl) | ((first | apply W2_scf | apply W2_f2); (conv => lhs; simp only [go_sem]) <;> rfl; rfl) | refine W2_block ?_)
    (with_reducible first | apply W2_sra | apply W2_runa); ((conv => lhs; simp only [go_sem, ibin, ishift]) <;> with_reducible rfl)
    refine W2.weak (Wk.nilf 6 1 rfl) ?_
    (repeat' with_reducible first | refine thn2_nrm ?_ | refine thn2_ret ?_ | refine thn2_ex ?_ | refine blk2_nrm ?_ | refine blk2_ret ?_ | refine blk2_at ?_ | (refine blk2_ex ?_ ?_; decide) | refine W2_sas ?_ | refine W2_ss ?_ | refine W2_sret ?_ | refine W2_sexit ?_ | ((first | apply W2_sra | apply W2_srda | apply W2_runa | apply W2_runda); (conv => lhs; simp only [go_sem, ibin, ishift]) <;> rfl) | ((first | apply W2_sct | apply W2_t2); (conv => lhs; simp only [go_sem]) <;> rfl; rfl) | ((first | apply W2_scf | apply W2_f2); (conv => lhs; simp only [go_sem]) <;> rfl; rfl) | refine W2_ret ?_ | refine W2_exit ?_ | refine W2_skip ?_ | refine W2_seq ?_ | refine W2_block ?_)
    refine ⟨by first | exact .inr rfl | exact .inl rfl, _, _, (by (conv => lhs; simp only [go_sem, ibin, ishift]) <;> with_reducible rfl), (by (conv => lhs; simp only [go_sem, ibin, ishift]) <;> with_reducible rfl), ?_⟩
    refine ⟨[0, 1, 2], by decide, rfl, ?_⟩
    rw [he]
    exact ⟨rfl, rfl⟩
  | false =>
    obtain ⟨o1, o2, o3⟩ := out_in ho
    obtain ⟨h0, h1⟩ := o3 node (by simp)
    obtain ⟨m, rfl⟩ := Int.eq_ofNat_of_zero_le h0
    have hml : m < t.hold.length := by omega
    have g1 := List.getElem?_eq_getElem hml
    generalize t.hold[m] = x at g1
    ((with_reducible first | apply WO2_finw | apply WO2_fina); ((conv => lhs; simp only [go_sem, ibin, ishift]) <;> with_reducible rfl))
    (repeat' with_reducible first | refine thn2_nrm ?_ | refine thn2_ret ?_ | refine thn2_ex ?_ | refine blk2_nrm ?_ | refine blk2_ret ?_ | refine blk2_at ?_ | (refine blk2_ex ?_ ?_; decide) | refine W2_sas ?_ | refine W2_ss ?_ | refine W2_sret ?_ | refine W2_sexit ?_ | ((first | apply W2_sra | apply W2_srda | apply W2_runa | apply W2_runda); (conv => lhs; simp only [go_sem, ibin, ishift, g1, h0, h1, hml, cI]) <;> rfl) | ((first | apply W2_sct | apply W2_t2); (conv => lhs; simp only [go_sem]) <;> rfl; rfl) | ((first | apply W2_scf | apply W2_f2); (conv => lhs; simp only [go_sem]) <;> rfl; rfl) | refine W2_ret ?_ | refine W2_exit ?_ | refine W2_skip ?_ | refine W2_seq ?_ | refine W2_block ?_)
    (((first | with_reducible apply W2_sc | with_reducible apply W2_cond); ((conv => lhs; simp only [go_sem]) <;> with_reducible rfl)) <;> intro hx <;> (try rw [hx]) <;> simp only [Bool.or_eq_true, Bool.and_eq_true, decide_eq_true_eq, Bool.or_eq_false_iff, Bool.and_eq_false_iff, decide_eq_false_iff_not, Bool.not_eq_true', Bool.not_eq_false', bne_iff_ne, beq_iff_eq, not_or, not_and, Decidable.not_not, ne_eq, gt_iff_lt, ge_iff_le, Int.not_lt, Int.not_le] at hx)
    · have he : t.release tote m = (t, [], 4) := by rw [Tab.release, if_neg (by rw [ho]; simp), if_pos (by rw [Int.toNat_natCast, g1]; exact hx)]
      (repeat' with_reducible first | refine thn2_nrm ?_ | refine thn2_ret ?_ | refine thn2_ex ?_ | refine blk2_nrm ?_ | refine blk2_ret ?_ | refine blk2_at ?_ | (refine blk2_ex ?_ ?_; decide) | refine W2_sas ?_ | refine W2_ss ?_ | refine W2_sret ?_ | refine W2_sexit ?_ | refine W2_skip ?_ | ((first | apply W2_sct | apply W2_t2); (conv => lhs; simp only [go_sem]) <;> rfl; rfl) | ((first | apply W2_scf | apply W2_f2); (conv => lhs; simp only [go_sem]) <;> rfl; rfl) | refine W2_block ?_)
      (with_reducible first | apply W2_sra | apply W2_runa); ((conv => lhs; simp only [go_sem, ibin, ishift]) <;> with_reducible rfl)
      refine W2.weak (Wk.nilf 6 1 rfl) ?_
      (repeat' with_reducible first | refine thn2_nrm ?_ | refine thn2_ret ?_ | refine thn2_ex ?_ | refine blk2_nrm ?_ | refine blk2_ret ?_ | refine blk2_at ?_ | (refine blk2_ex ?_ ?_; decide) | refine W2_sas ?_ | refine W2_ss ?_ | refine W2_sret ?_ | refine W2_sexit ?_ | ((first | apply W2_sra | apply W2_srda | apply W2_runa | apply W2_runda); (conv => lhs; simp only [go_sem, ibin, ishift]) <;> rfl) | ((first | apply W2_sct | apply W2_t2); (conv => lhs; simp only [go_sem]) <;> rfl; rfl) | ((first | apply W2_scf | apply W2_f2); (conv => lhs; simp only [go_sem]) <;> rfl; rfl) | refine W2_ret ?_ | refine W2_exit ?_ | refine W2_skip ?_ | refine W2_seq ?_ | refine W2_block ?_)
      refine ⟨by first | exact .inr rfl | exact .inl rfl, _, _, (by (conv => lhs; simp only [go_sem, ibin, ishift]) <;> with_reducible rfl), (by (conv => lhs; simp only [go_sem, ibin, ishift]) <;> with_reducible rfl), ?_⟩
      refine ⟨[0, 1, 2], by decide, rfl, ?_⟩
      rw [he]
      exact ⟨rfl, rfl⟩
    · have he : t.release tote m = ((Tab.g ⟨t.hold.set m 0, t.q⟩).1, (Tab.g ⟨t.hold.set m 0, t.q⟩).2, 0) := by rw [Tab.release, if_neg (by rw [ho]; simp), if_neg (by rw [Int.toNat_natCast, g1]; simpa using hx)]; rfl
      have hs : (t.hold.map cI).set m [PV.i .i64 0] = (t.hold.set m 0).map cI := by rw [List.map_set]; rfl
      (repeat' with_reducible first | refine thn2_nrm ?_ | refine thn2_ret ?_ | refine thn2_ex ?_ | refine blk2_nrm ?_ | refine blk2_ret ?_ | refine blk2_at ?_ | (refine blk2_ex ?_ ?_; decide) | refine W2_sas ?_ | refine W2_ss ?_ | refine W2_sret ?_ | refine W2_sexit ?_ | ((first | apply W2_sra | apply W2_srda | apply W2_runa | apply W2_runda); (conv => lhs; simp only [go_sem, ibin, ishift, g1, h0, h1, hml, cI, hs]) <;> rfl) | ((first | apply W2_sct | apply W2_t2); (conv => lhs; simp only [go_sem]) <;> rfl; rfl) | ((first | apply W2_scf | apply W2_f2); (conv => lhs; simp only [go_sem]) <;> rfl; rfl) | refine W2_ret ?_ | refine W2_exit ?_ | refine W2_skip ?_ | refine W2_seq ?_ | refine W2_block ?_)
      ((with_reducible first | apply W2_scall | apply W2_scalld | apply W2_calla | apply W2_callda | apply run2a_sound); ((conv => lhs; simp only [go_sem, ibin, ishift]) <;> with_reducible rfl))
      refine CK_call [0, 1, 2] (grants_spec c.toTabC4 ⟨t.hold.set m 0, t.q⟩ ⟨by simpa using hk.q, by simpa using hk.hl⟩ hl) (by decide) (by simp) rfl rfl (by simp only [Tab.h, List.length_set]; rfl) ?_
      rintro v h' ⟨rfl, rfl⟩
      ((with_reducible first | apply WO2_finw | apply WO2_fina); ((conv => lhs; simp only [go_sem, ibin, ishift]) <;> with_reducible rfl))
      (repeat' with_reducible first | refine thn2_nrm ?_ | refine thn2_ret ?_ | refine thn2_ex ?_ | refine blk2_nrm ?_ | refine blk2_ret ?_ | refine blk2_at ?_ | (refine blk2_ex ?_ ?_; decide) | refine W2_sas ?_ | refine W2_ss ?_ | refine W2_sret ?_ | refine W2_sexit ?_ | ((first | apply W2_sra | apply W2_srda | apply W2_runa | apply W2_runda); (conv => lhs; simp only [go_sem, ibin, ishift]) <;> rfl) | ((first | apply W2_sct | apply W2_t2); (conv => lhs; simp only [go_sem]) <;> rfl; rfl) | ((first | apply W2_scf | apply W2_f2); (conv => lhs; simp only [go_sem]) <;> rfl; rfl) | refine W2_ret ?_ | refine W2_exit ?_ | refine W2_skip ?_ | refine W2_seq ?_ | refine W2_block ?_)
      refine ⟨by first | exact .inr rfl | exact .inl rfl, _, _, (by (conv => lhs; simp only [go_sem, ibin, ishift]) <;> with_reducible rfl), (by (conv => lhs; simp only [go_sem, ibin, ishift]) <;> with_reducible rfl), ?_⟩
      refine ⟨[0, 1, 2], by decide, rfl, ?_⟩
      rw [he]
      exact ⟨rfl, rfl⟩
/-- a call that is handed nil is one that is handed an empty list -/
theorem Ret2.nil3 {k f : Nat} {a b : SV} {h : SH} {R : SV → SH → Prop} {esz : Nat} (r : Ret2 T k f [a, b, .fz esz []] h R) : Ret2 T k f [a, b, .nils] h R :=
  ⟨fun w ca ch h1 h2 => r.run w ca ch h1 ⟨h2.1, fun j x y hx hy => by
    match j, hx with
    | 0, hx => exact h2.2 0 x y hx hy
    | 1, hx => exact h2.2 1 x y hx hy
    | 2, hx =>
      cases hx
      have := h2.2 2 .nils y rfl hy
      cases this with | p h => cases h; exact .p (.fz0 _)⟩⟩
def Tab.drop (t : Tab) (tote : Int) : Tab × List Int × Int :=
  if t.out tote [] = true then (t, [], 1) else match qfind t.q tote with | none => (t, [], 4) | some i => ((Tab.g ⟨t.hold, t.q.eraseIdx i⟩).1, (Tab.g ⟨t.hold, t.q.eraseIdx i⟩).2, 0)
theorem drop_spec (c : TabC5 T) (t : Tab) (hk : t.Ok) (hl : t.q.length ≤ 1000000) (tote : Int) : Ret2 T 1 i_claim_Table_Drop [.ptr 0 0, .i .i64 tote] t.h
    (fun v h' => v = .tup [.fz 1 ((t.drop tote).2.1.map cI), .i .i64 (t.drop tote).2.2] ∧ h' = (t.drop tote).1.h) := by
  refine Ret2_fnv c.drop rfl rfl ?_
  unfold Tab.h
  (repeat' with_reducible first | refine thn2_nrm ?_ | refine thn2_ret ?_ | refine thn2_ex ?_ | refine blk2_nrm ?_ | refine blk2_ret ?_ | refine blk2_at ?_ | (refine blk2_ex ?_ ?_; decide) | refine W2_sas ?_ | refine W2_ss ?_ | refine W2_sret ?_ | refine W2_sexit ?_ | ((first | apply W2_sra | apply W2_srda | apply W2_runa | apply W2_runda); (conv => lhs; simp only [go_sem, ibin, ishift]) <;> rfl) | ((first | apply W2_sct | apply W2_t2); (conv => lhs; simp only [go_sem]) <;> rfl; rfl) | ((first | apply W2_scf | apply W2_f2); (conv => lhs; simp only [go_sem]) <;> rfl; rfl) | refine W2_ret ?_ | refine W2_exit ?_ | refine W2_skip ?_ | refine W2_seq ?_ | refine W2_block ?_)
  ((with_reducible first | apply W2_scall | apply W2_scalld | apply W2_calla | apply W2_callda | apply run2a_sound); ((conv => lhs; simp only [go_sem, ibin, ishift]) <;> with_reducible rfl))
  refine CK_call [0, 1, 2] (outside_spec c.toTabC1 t tote [] (by simp)).nil3 (by decide) (by simp) rfl rfl rfl ?_
  rintro v h' ⟨rfl, rfl⟩
  unfold Tab.h
  cases ho : t.out tote [] with
  | true =>
    have he : t.drop tote = (t, [], 1) := by rw [Tab.drop, if_pos ho]
    ((with_reducible first | apply WO2_finw | apply WO2_fina); ((conv => lhs; simp only [go_sem, ibin, ishift]) <;> with_reducible rfl))
    (repeat' with_reducible first | refine thn2_nrm ?_ | refine thn2_ret ?_ | refine thn2_ex ?_ | refine blk2_nrm ?_ | refine blk2_ret ?_ | refine blk2_at ?_ | (refine blk2_ex ?_ ?_; decide) | refine W2_sas ?_ | refine W2_ss ?_ | refine W2_sret ?_ | refine W2_sexit ?_ | refine W2_skip ?_ | ((first | apply W2_sct | apply W2_t2); (conv => lhs; simp only [go_sem]) <;> rfl; rfl) | ((first | apply W2_scf | apply W2_f2); (conv => lhs; simp only [go_sem]) <;> rfl; rfl) | refine W2_block ?_)
    (with_reducible first | apply W2_sra | apply W2_runa); ((conv => lhs; simp only [go_sem, ibin, ishift]) <;> with_reducible rfl)
    refine W2.weak (Wk.nilf 4 1 rfl) ?_
    (repeat' with_reducible first | refine thn2_nrm ?_ | refine thn2_ret ?_ | refine thn2_ex ?_ | refine blk2_nrm ?_ | refine blk2_ret ?_ | refine blk2_at ?_ | (refine blk2_ex ?_ ?_; decide) | refine W2_sas ?_ | refine W2_ss ?_ | refine W2_sret ?_ | refine W2_sexit ?_ | ((first | apply W2_sra | apply W2_srda | apply W2_runa | apply W2_runda); (conv => lhs; simp only [go_sem, ibin, ishift]) <;> rfl) | ((first | apply W2_sct | apply W2_t2); (conv => lhs; simp only [go_sem]) <;> rfl; rfl) | ((first | apply W2_scf | apply W2_f2); (conv => lhs; simp only [go_sem]) <;> rfl; rfl) | refine W2_ret ?_ | refine W2_exit ?_ | refine W2_skip ?_ | refine W2_seq ?_ | refine W2_block ?_)
    refine ⟨by first | exact .inr rfl | exact .inl rfl, _, _, (by (conv => lhs; simp only [go_sem, ibin, ishift]) <;> with_reducible rfl), (by (conv => lhs; simp only [go_sem, ibin, ishift]) <;> with_reducible rfl), ?_⟩
    refine ⟨[0, 1, 2], by decide, rfl, ?_⟩
    rw [he]
    exact ⟨rfl, rfl⟩
  | false =>
    ((with_reducible first | apply WO2_finw | apply WO2_fina); ((conv => lhs; simp only [go_sem, ibin, ishift]) <;> with_reducible rfl))
    (repeat' with_reducible first | refine thn2_nrm ?_ | refine thn2_ret ?_ | refine thn2_ex ?_ | refine blk2_nrm ?_ | refine blk2_ret ?_ | refine blk2_at ?_ | (refine blk2_ex ?_ ?_; decide) | refine W2_sas ?_ | refine W2_ss ?_ | refine W2_sret ?_ | refine W2_sexit ?_ | ((first | apply W2_sra | apply W2_srda | apply W2_runa | apply W2_runda); (conv => lhs; simp only [go_sem, ibin, ishift]) <;> rfl) | ((first | apply W2_sct | apply W2_t2); (conv => lhs; simp only [go_sem]) <;> rfl; rfl) | ((first | apply W2_scf | apply W2_f2); (conv => lhs; simp only [go_sem]) <;> rfl; rfl) | refine W2_ret ?_ | refine W2_exit ?_ | refine W2_skip ?_ | refine W2_seq ?_ | refine W2_block ?_)
    ((with_reducible first | apply W2_scall | apply W2_scalld | apply W2_calla | apply W2_callda | apply run2a_sound); ((conv => lhs; simp only [go_sem, ibin, ishift]) <;> with_reducible rfl))
    refine CK_call [0, 1, 2] (find_spec c.toTabC2 t tote (by omega)) (by decide) (by simp) rfl rfl rfl ?_
    rintro v h' ⟨rfl, rfl⟩
    unfold Tab.h
    cases hf : qfind t.q tote with
    | none =>
      have he : t.drop tote = (t, [], 4) := by rw [Tab.drop, if_neg (by rw [ho]; simp), hf]
      ((with_reducible first | apply WO2_finw | apply WO2_fina); ((conv => lhs; simp only [go_sem, ibin, ishift, posZ]) <;> with_reducible rfl))
      (repeat' with_reducible first | refine thn2_nrm ?_ | refine thn2_ret ?_ | refine thn2_ex ?_ | refine blk2_nrm ?_ | refine blk2_ret ?_ | refine blk2_at ?_ | (refine blk2_ex ?_ ?_; decide) | refine W2_sas ?_ | refine W2_ss ?_ | refine W2_sret ?_ | refine W2_sexit ?_ | refine W2_skip ?_ | ((first | apply W2_sct | apply W2_t2); (conv => lhs; simp only [go_sem]) <;> rfl; rfl) | ((first | apply W2_scf | apply W2_f2); (conv => lhs; simp only [go_sem]) <;> rfl; rfl) | refine W2_block ?_)
      (with_reducible first | apply W2_sra | apply W2_runa); ((conv => lhs; simp only [go_sem, ibin, ishift]) <;> with_reducible rfl)
      (repeat' with_reducible first | refine thn2_nrm ?_ | refine thn2_ret ?_ | refine thn2_ex ?_ | refine blk2_nrm ?_ | refine blk2_ret ?_ | refine blk2_at ?_ | (refine blk2_ex ?_ ?_; decide) | refine W2_sas ?_ | refine W2_ss ?_ | refine W2_sret ?_ | refine W2_sexit ?_ | refine W2_skip ?_ | ((first | apply W2_sct | apply W2_t2); (conv => lhs; simp only [go_sem]) <;> rfl; rfl) | ((first | apply W2_scf | apply W2_f2); (conv => lhs; simp only [go_sem]) <;> rfl; rfl) | refine W2_block ?_)
      (with_reducible first | apply W2_sra | apply W2_runa); ((conv => lhs; simp only [go_sem, ibin, ishift]) <;> with_reducible rfl)
      refine W2.weak (Wk.nilf 4 1 rfl) ?_
      (repeat' with_reducible first | refine thn2_nrm ?_ | refine thn2_ret ?_ | refine thn2_ex ?_ | refine blk2_nrm ?_ | refine blk2_ret ?_ | refine blk2_at ?_ | (refine blk2_ex ?_ ?_; decide) | refine W2_sas ?_ | refine W2_ss ?_ | refine W2_sret ?_ | refine W2_sexit ?_ | ((first | apply W2_sra | apply W2_srda | apply W2_runa | apply W2_runda); (conv => lhs; simp only [go_sem, ibin, ishift]) <;> rfl) | ((first | apply W2_sct | apply W2_t2); (conv => lhs; simp only [go_sem]) <;> rfl; rfl) | ((first | apply W2_scf | apply W2_f2); (conv => lhs; simp only [go_sem]) <;> rfl; rfl) | refine W2_ret ?_ | refine W2_exit ?_ | refine W2_skip ?_ | refine W2_seq ?_ | refine W2_block ?_)
      refine ⟨by first | exact .inr rfl | exact .inl rfl, _, _, (by (conv => lhs; simp only [go_sem, ibin, ishift]) <;> with_reducible rfl), (by (conv => lhs; simp only [go_sem, ibin, ishift]) <;> with_reducible rfl), ?_⟩
      refine ⟨[0, 1, 2], by decide, rfl, ?_⟩
      rw [he]
      exact ⟨rfl, rfl⟩
    | some i =>
      have he : t.drop tote = ((Tab.g ⟨t.hold, t.q.eraseIdx i⟩).1, (Tab.g ⟨t.hold, t.q.eraseIdx i⟩).2, 0) := by rw [Tab.drop, if_neg (by rw [ho]; simp), hf]
      have hi : i < t.q.length := by
        rw [qfind, List.findIdx?_eq_some_iff_getElem] at hf
        exact hf.1
      have hd : decide ((i : Int) < 0) = false := decide_eq_false (by omega)
      ((with_reducible first | apply WO2_finw | apply WO2_fina); ((conv => lhs; simp only [go_sem, ibin, ishift, posZ]) <;> with_reducible rfl))
      (repeat' with_reducible first | refine thn2_nrm ?_ | refine thn2_ret ?_ | refine thn2_ex ?_ | refine blk2_nrm ?_ | refine blk2_ret ?_ | refine blk2_at ?_ | (refine blk2_ex ?_ ?_; decide) | refine W2_sas ?_ | refine W2_ss ?_ | refine W2_sret ?_ | refine W2_sexit ?_ | ((first | apply W2_sra | apply W2_srda | apply W2_runa | apply W2_runda); (conv => lhs; simp only [go_sem, ibin, ishift, hd]) <;> rfl) | ((first | apply W2_sct | apply W2_t2); (conv => lhs; simp only [go_sem]) <;> rfl; rfl) | ((first | apply W2_scf | apply W2_f2); (conv => lhs; simp only [go_sem]) <;> rfl; rfl) | refine W2_ret ?_ | refine W2_exit ?_ | refine W2_skip ?_ | refine W2_seq ?_ | refine W2_block ?_)
      ((with_reducible first | apply W2_scall | apply W2_scalld | apply W2_calla | apply W2_callda | apply run2a_sound); ((conv => lhs; simp only [go_sem, ibin, ishift, wS (show i < 9223372036854775807 by omega)]) <;> with_reducible rfl))
      refine CK_call [2] (delete_spec c.toTabC3 t.q i hi hl) (by decide) (by simp) rfl rfl rfl ?_
      rintro v h' ⟨rfl, rfl⟩
      ((with_reducible first | apply WO2_finw | apply WO2_fina); ((conv => lhs; simp only [go_sem, ibin, ishift]) <;> with_reducible rfl))
      (repeat' with_reducible first | refine thn2_nrm ?_ | refine thn2_ret ?_ | refine thn2_ex ?_ | refine blk2_nrm ?_ | refine blk2_ret ?_ | refine blk2_at ?_ | (refine blk2_ex ?_ ?_; decide) | refine W2_sas ?_ | refine W2_ss ?_ | refine W2_sret ?_ | refine W2_sexit ?_ | ((first | apply W2_sra | apply W2_srda | apply W2_runa | apply W2_runda); (conv => lhs; simp only [go_sem, ibin, ishift]) <;> rfl) | ((first | apply W2_sct | apply W2_t2); (conv => lhs; simp only [go_sem]) <;> rfl; rfl) | ((first | apply W2_scf | apply W2_f2); (conv => lhs; simp only [go_sem]) <;> rfl; rfl) | refine W2_ret ?_ | refine W2_exit ?_ | refine W2_skip ?_ | refine W2_seq ?_ | refine W2_block ?_)
      ((with_reducible first | apply W2_scall | apply W2_scalld | apply W2_calla | apply W2_callda | apply run2a_sound); ((conv => lhs; simp only [go_sem, ibin, ishift]) <;> with_reducible rfl))
      refine CK_call [0, 1, 2] (grants_spec c.toTabC4 ⟨t.hold, t.q.eraseIdx i⟩ ⟨fun c hc => hk.q c (List.mem_of_mem_eraseIdx hc), hk.hl⟩ (by rw [List.length_eraseIdx_of_lt hi]; omega)) (by decide) (by simp) rfl rfl rfl ?_
      rintro v h' ⟨rfl, rfl⟩
      ((with_reducible first | apply WO2_finw | apply WO2_fina); ((conv => lhs; simp only [go_sem, ibin, ishift]) <;> with_reducible rfl))
      (repeat' with_reducible first | refine thn2_nrm ?_ | refine thn2_ret ?_ | refine thn2_ex ?_ | refine blk2_nrm ?_ | refine blk2_ret ?_ | refine blk2_at ?_ | (refine blk2_ex ?_ ?_; decide) | refine W2_sas ?_ | refine W2_ss ?_ | refine W2_sret ?_ | refine W2_sexit ?_ | ((first | apply W2_sra | apply W2_srda | apply W2_runa | apply W2_runda); (conv => lhs; simp only [go_sem, ibin, ishift]) <;> rfl) | ((first | apply W2_sct | apply W2_t2); (conv => lhs; simp only [go_sem]) <;> rfl; rfl) | ((first | apply W2_scf | apply W2_f2); (conv => lhs; simp only [go_sem]) <;> rfl; rfl) | refine W2_ret ?_ | refine W2_exit ?_ | refine W2_skip ?_ | refine W2_seq ?_ | refine W2_block ?_)
      refine ⟨by first | exact .inr rfl | exact .inl rfl, _, _, (by (conv => lhs; simp only [go_sem, ibin, ishift]) <;> with_reducible rfl), (by (conv => lhs; simp only [go_sem, ibin, ishift]) <;> with_reducible rfl), ?_⟩
      refine ⟨[0, 1, 2], by decide, rfl, ?_⟩
      rw [he]
      exact ⟨rfl, rfl⟩
end Go.Proofs.Ytpgoemmjhnnmoaa.Ab
