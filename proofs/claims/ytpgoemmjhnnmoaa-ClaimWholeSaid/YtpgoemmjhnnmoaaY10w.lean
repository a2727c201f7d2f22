/- Chapter 10: ClaimWhole, the walk. -/
import Derived.Test.YtpgoemmjhnnmoaaY10v
import Derived.Test.YtpgoemmjhnnmoaaY10i
import Derived.Test.YtpgoemmjhnnmoaaY10u
namespace Go.Proofs.Ytpgoemmjhnnmoaa.Ab
open Go
set_option linter.unusedVariables false
set_option linter.unusedSimpArgs false
variable {T : AT}
def Wv (c : Clm) : PV := .fz 1 (c.ns.map cI)
def wholeH (t : Tab) (ws : List Clm) : SH := [some (.obj [.sl 1 1 0 t.hold.length none, .sl 2 2 0 t.q.length none]), some (.arr 1 (t.hold.map cI)), some (.arr 2 (t.q.map cQ)), some (.map (ws.map (mP Clm.t Wv)))]
set_option maxHeartbeats 1000000 in
/-- those that were granted hold all that they wanted, and are struck out -/
theorem whole_granted (c : TabL10 T) {N i : Nat} (hi : i ≤ 200) {n0 : SV} {L : List (List PV)} {t : Tab} {ws G : List Clm} (hP : Pre N i t ws G) {Q : XT → SE → SH → Prop}
    (hq : ∀ ws', Pre N i t ws' [] → Q (.ex 5) [(0, .i .i64 N), (1, .fz 4 L), (5, .ptr 0 0), (7, .mp 3), (8, n0), (139, .fz 1 ((G.map Clm.t).map cI)), (140, .i .i64 G.length), (141, .i .i64 G.length), (142, .b false)] (wholeH t ws'))
    (hn : ∃ m : Int, n0 = .i .i64 m) :
    W2 T 0 (.loop c_stillagelaw10_ClaimWhole_b26) [(0, .i .i64 N), (1, .fz 4 L), (5, .ptr 0 0), (7, .mp 3), (8, n0), (139, .fz 1 ((G.map Clm.t).map cI)), (140, .i .i64 G.length), (141, .i .i64 0)] (wholeH t ws) Q := by
  obtain ⟨n0, rfl⟩ := hn
  have hGl := hP.qlen.2
  unfold wholeH
  refine W2_loopu (fun m u g => ∃ j ws, j + m = G.length ∧ Pre N i t ws (G.drop j) ∧ u = [(141, .i .i64 j)] ∧ g = [(3, .map (ws.map (mP Clm.t Wv)))]) G.length ⟨0, ws, by omega, by simpa using hP, rfl, rfl⟩ rfl rfl ?_
  clear hP
  rintro m u g ⟨j, ws1, hj, hP, rfl, rfl⟩
  intro e1 h1 he1 hh1; simp only [egd, supE, hgd, supH, Nat.reduceEqDiff, Nat.reduceAdd, if_true, if_false, reduceIte] at he1 hh1; subst he1; subst hh1
  (repeat' with_reducible first | refine thn2_nrm ?_ | refine thn2_ret ?_ | refine thn2_ex ?_ | refine blk2_nrm ?_ | refine blk2_ret ?_ | refine blk2_at ?_ | (refine blk2_ex ?_ ?_; decide) | refine W2_sas ?_ | refine W2_ss ?_ | refine W2_sret ?_ | refine W2_sexit ?_ | ((first | apply W2_sra | apply W2_srda | apply W2_runa | apply W2_runda); (conv => lhs; simp only [go_sem, ibin, ishift, List.length_map]) <;> rfl) | ((first | apply W2_sct | apply W2_t2); (conv => lhs; simp only [go_sem]) <;> rfl; rfl) | ((first | apply W2_scf | apply W2_f2); (conv => lhs; simp only [go_sem]) <;> rfl; rfl) | refine W2_ret ?_ | refine W2_exit ?_ | refine W2_skip ?_ | refine W2_seq ?_ | refine W2_block ?_)
  (((first | with_reducible apply W2_sc | with_reducible apply W2_cond); ((conv => lhs; simp only [go_sem]) <;> with_reducible rfl)) <;> intro hx <;> (try rw [hx]) <;> simp only [Bool.or_eq_true, Bool.and_eq_true, decide_eq_true_eq, Bool.or_eq_false_iff, Bool.and_eq_false_iff, decide_eq_false_iff_not, Bool.not_eq_true', Bool.not_eq_false', bne_iff_ne, beq_iff_eq, not_or, not_and, Decidable.not_not, ne_eq, gt_iff_lt, ge_iff_le, Int.not_lt, Int.not_le] at hx)
  · have hjl : j < G.length := by omega
    have hg := List.getElem?_eq_getElem hjl
    have hdr : G.drop j = G[j] :: G.drop (j + 1) := List.drop_eq_getElem_cons hjl
    generalize G[j] = cl at hg hdr
    rw [hdr] at hP
    have hhe := hP.held cl (.head _)
    obtain ⟨hin, hne, hl5, _⟩ := hP.ok cl (hP.mem (.inl (.head _)))
    obtain ⟨a, hf, hP'⟩ := hP.next
    have hw := wS (show j < 9223372036854775807 by omega)
    (repeat' with_reducible first | refine thn2_nrm ?_ | refine thn2_ret ?_ | refine thn2_ex ?_ | refine blk2_nrm ?_ | refine blk2_ret ?_ | refine blk2_at ?_ | (refine blk2_ex ?_ ?_; decide) | refine W2_sas ?_ | refine W2_ss ?_ | refine W2_sret ?_ | refine W2_sexit ?_ | ((first | apply W2_sra | apply W2_srda | apply W2_runa | apply W2_runda); (conv => lhs; simp only [go_sem, ibin, ishift, hg, hjl, cI, hf, Wv, List.length_map]) <;> rfl) | ((first | apply W2_sct | apply W2_t2); (conv => lhs; simp only [go_sem]) <;> rfl; rfl) | ((first | apply W2_scf | apply W2_f2); (conv => lhs; simp only [go_sem]) <;> rfl; rfl) | refine W2_ret ?_ | refine W2_exit ?_ | refine W2_skip ?_ | refine W2_seq ?_ | refine W2_block ?_)
    refine W2_loopu (fun m u g => ∃ b, b + m = cl.ns.length ∧ u = [(149, .i .i64 b)] ∧ g = []) cl.ns.length ⟨0, by omega, rfl, rfl⟩ rfl rfl ?_
    rintro m u g ⟨b, hb, rfl, rfl⟩
    intro e1 h1 he1 hh1; simp only [egd, supE, hgd, supH, Nat.reduceEqDiff, Nat.reduceAdd, if_true, if_false, reduceIte] at he1 hh1; subst he1; subst hh1
    (repeat' with_reducible first | refine thn2_nrm ?_ | refine thn2_ret ?_ | refine thn2_ex ?_ | refine blk2_nrm ?_ | refine blk2_ret ?_ | refine blk2_at ?_ | (refine blk2_ex ?_ ?_; decide) | refine W2_sas ?_ | refine W2_ss ?_ | refine W2_sret ?_ | refine W2_sexit ?_ | ((first | apply W2_sra | apply W2_srda | apply W2_runa | apply W2_runda); (conv => lhs; simp only [go_sem, ibin, ishift]) <;> rfl) | ((first | apply W2_sct | apply W2_t2); (conv => lhs; simp only [go_sem]) <;> rfl; rfl) | ((first | apply W2_scf | apply W2_f2); (conv => lhs; simp only [go_sem]) <;> rfl; rfl) | refine W2_ret ?_ | refine W2_exit ?_ | refine W2_skip ?_ | refine W2_seq ?_ | refine W2_block ?_)
    (((first | with_reducible apply W2_sc | with_reducible apply W2_cond); ((conv => lhs; simp only [go_sem]) <;> with_reducible rfl)) <;> intro hx <;> (try rw [hx]) <;> simp only [Bool.or_eq_true, Bool.and_eq_true, decide_eq_true_eq, Bool.or_eq_false_iff, Bool.and_eq_false_iff, decide_eq_false_iff_not, Bool.not_eq_true', Bool.not_eq_false', bne_iff_ne, beq_iff_eq, not_or, not_and, Decidable.not_not, ne_eq, gt_iff_lt, ge_iff_le, Int.not_lt, Int.not_le] at hx)
    · have hjl : b < cl.ns.length := by omega
      have hg := List.getElem?_eq_getElem hjl
      have htk : cl.ns.take (b + 1) = cl.ns.take b ++ [cl.ns[b]] := by rw [List.take_add_one, List.getElem?_eq_getElem hjl]; rfl
      have hmem := List.getElem_mem hjl
      generalize cl.ns[b] = w at hg htk hmem
      have hho : t.holder w = cl.t := by
        have := hin w hmem
        rw [Tab.holder, if_neg (by omega), hhe w hmem]; rfl
      (repeat' with_reducible first | refine thn2_nrm ?_ | refine thn2_ret ?_ | refine thn2_ex ?_ | refine blk2_nrm ?_ | refine blk2_ret ?_ | refine blk2_at ?_ | (refine blk2_ex ?_ ?_; decide) | refine W2_sas ?_ | refine W2_ss ?_ | refine W2_sret ?_ | refine W2_sexit ?_ | ((first | apply W2_sra | apply W2_srda | apply W2_runa | apply W2_runda); (conv => lhs; simp only [go_sem, ibin, ishift, hg, hjl, cI]) <;> rfl) | ((first | apply W2_sct | apply W2_t2); (conv => lhs; simp only [go_sem]) <;> rfl; rfl) | ((first | apply W2_scf | apply W2_f2); (conv => lhs; simp only [go_sem]) <;> rfl; rfl) | refine W2_ret ?_ | refine W2_exit ?_ | refine W2_skip ?_ | refine W2_seq ?_ | refine W2_block ?_)
      ((with_reducible first | apply W2_scall | apply W2_scalld | apply W2_calla | apply W2_callda | apply run2a_sound); ((conv => lhs; simp only [go_sem, ibin, ishift]) <;> with_reducible rfl))
      refine CK_call [0, 1, 2] (holder_spec c.toTabC3 t w) (by decide) (by simp) rfl rfl rfl ?_
      rintro v h' ⟨rfl, rfl⟩
      rw [hho]
      unfold Tab.h
      ((with_reducible first | apply WO2_finw | apply WO2_fina); ((conv => lhs; simp only [go_sem, ibin, ishift]) <;> with_reducible rfl))
      (repeat' with_reducible first | refine thn2_nrm ?_ | refine thn2_ret ?_ | refine thn2_ex ?_ | refine blk2_nrm ?_ | refine blk2_ret ?_ | refine blk2_at ?_ | (refine blk2_ex ?_ ?_; decide) | refine W2_sas ?_ | refine W2_ss ?_ | refine W2_sret ?_ | refine W2_sexit ?_ | ((first | apply W2_sra | apply W2_srda | apply W2_runa | apply W2_runda); (conv => lhs; simp only [go_sem, ibin, ishift, wS (show b < 9223372036854775807 by omega)]) <;> rfl) | ((first | apply W2_sct | apply W2_t2); (conv => lhs; simp only [go_sem]) <;> rfl; rfl) | ((first | apply W2_scf | apply W2_f2); (conv => lhs; simp only [go_sem]) <;> rfl; rfl) | refine W2_ret ?_ | refine W2_exit ?_ | refine W2_skip ?_ | refine W2_seq ?_ | refine W2_block ?_)
      refine ⟨[0, 1, 2, 3], by decide, rfl, ?_⟩
      exact ⟨cl.ns.length - (b + 1), _, _, by omega, ⟨b + 1, by omega, rfl, rfl⟩, rfl, (by first | rfl | ((conv => lhs; simp only [go_sem, ibin, ishift]) <;> rfl))⟩
    · have hl0 : decide ((cl.ns.length : Int) = 0) = false := decide_eq_false (by have := List.length_pos_iff.2 hne; omega)
      (repeat' with_reducible first | refine thn2_nrm ?_ | refine thn2_ret ?_ | refine thn2_ex ?_ | refine blk2_nrm ?_ | refine blk2_ret ?_ | refine blk2_at ?_ | (refine blk2_ex ?_ ?_; decide) | refine W2_sas ?_ | refine W2_ss ?_ | refine W2_sret ?_ | refine W2_sexit ?_ | ((first | apply W2_sra | apply W2_srda | apply W2_runa | apply W2_runda); (conv => lhs; simp only [go_sem, ibin, ishift, hf, Wv, hl0, hw, List.length_map]) <;> rfl) | ((first | apply W2_sct | apply W2_t2); (conv => lhs; simp only [go_sem]) <;> rfl; rfl) | ((first | apply W2_scf | apply W2_f2); (conv => lhs; simp only [go_sem]) <;> rfl; rfl) | refine W2_ret ?_ | refine W2_exit ?_ | refine W2_skip ?_ | refine W2_seq ?_ | refine W2_block ?_)
      refine ⟨[0, 1, 2, 3], by decide, rfl, ?_⟩
      exact ⟨G.length - (j + 1), _, _, by omega, ⟨j + 1, ws1.eraseIdx a, by omega, hP', rfl, rfl⟩, rfl, (by first | rfl | ((conv => lhs; simp only [go_sem, ibin, ishift]) <;> rfl))⟩
  · have : j = G.length := by omega
    subst this
    rw [List.drop_length] at hP
    have := hq ws1 hP
    (repeat' with_reducible first | refine thn2_nrm ?_ | refine thn2_ret ?_ | refine thn2_ex ?_ | refine blk2_nrm ?_ | refine blk2_ret ?_ | refine blk2_at ?_ | (refine blk2_ex ?_ ?_; decide) | refine W2_sas ?_ | refine W2_ss ?_ | refine W2_sret ?_ | refine W2_sexit ?_ | ((first | apply W2_sra | apply W2_srda | apply W2_runa | apply W2_runda); (conv => lhs; simp only [go_sem, ibin, ishift]) <;> rfl) | ((first | apply W2_sct | apply W2_t2); (conv => lhs; simp only [go_sem]) <;> rfl; rfl) | ((first | apply W2_scf | apply W2_f2); (conv => lhs; simp only [go_sem]) <;> rfl; rfl) | refine W2_ret ?_ | refine W2_exit ?_ | refine W2_skip ?_ | refine W2_seq ?_ | refine W2_block ?_)
    exact this
set_option maxHeartbeats 1000000 in
theorem whole_ahead {N : Nat} {n0 : Int} {L : List (List PV)} {t : Tab} {ws : List Clm} (find : ∀ {d : Clm}, d ∈ t.q → ∃ a, findX Clm.t d.t ws 0 = some (a, d) ∧ d.ns.length ≤ 5) {k : Nat} (hkl : k < t.q.length) (hk200 : k ≤ 200) {g w : Int} {x : Bool} {l : List Int} {a : Nat} {Q : XT → SE → SH → Prop}
    (hq : Q (.ex 13) [(0, .i .i64 N), (1, .fz 4 L), (5, .ptr 0 0), (7, .mp 3), (8, .i .i64 n0), (20, .fz 1 ((t.q.map Clm.t).map cI)), (21, .i .i64 k), (22, .i .i64 g), (23, .b (x || (t.q.take k).any fun d => d.ns.any fun y => decide (y = w))), (25, .i .i64 w), (174, .fz 1 ((t.q.map Clm.t).map cI)), (175, .i .i64 t.q.length), (176, .i .i64 k),
      (183, .fz 1 (l.map cI)), (184, .i .i64 l.length), (185, .i .i64 a), (205, .fz 1 (((t.q.take k).map Clm.t).map cI)), (206, .i .i64 k), (207, .i .i64 k), (208, .b false)] (wholeH t ws)) :
    W2 T 0 (.loop c_stillagelaw10_ClaimWhole_b36) [(0, .i .i64 N), (1, .fz 4 L), (5, .ptr 0 0), (7, .mp 3), (8, .i .i64 n0), (20, .fz 1 ((t.q.map Clm.t).map cI)), (21, .i .i64 k), (22, .i .i64 g), (23, .b x), (25, .i .i64 w), (174, .fz 1 ((t.q.map Clm.t).map cI)), (175, .i .i64 t.q.length), (176, .i .i64 k),
      (183, .fz 1 (l.map cI)), (184, .i .i64 l.length), (185, .i .i64 a), (205, .fz 1 (((t.q.take k).map Clm.t).map cI)), (206, .i .i64 k), (207, .i .i64 0)] (wholeH t ws) Q := by
  generalize hA : t.q.take k = A at hq
  have hAl : A.length = k := by rw [← hA, List.length_take]; omega
  have hAm : ∀ d ∈ A, d ∈ t.q := fun d hd => by rw [← hA] at hd; exact List.mem_of_mem_take hd
  unfold wholeH at hq ⊢
  refine W2_loopu (fun m u g => ∃ b, b + m = k ∧ u = [(23, .b (x || (A.take b).any fun d => d.ns.any fun y => decide (y = w))), (207, .i .i64 b)] ∧ g = []) k ⟨0, by omega, rfl, rfl⟩ (by simp [supE, egd]) rfl ?_
  rintro m u g ⟨b, hb, rfl, rfl⟩
  intro e1 h1 he1 hh1; simp only [egd, supE, hgd, supH, Nat.reduceEqDiff, Nat.reduceAdd, if_true, if_false, reduceIte] at he1 hh1; subst he1; subst hh1
  (repeat' with_reducible first | refine thn2_nrm ?_ | refine thn2_ret ?_ | refine thn2_ex ?_ | refine blk2_nrm ?_ | refine blk2_ret ?_ | refine blk2_at ?_ | (refine blk2_ex ?_ ?_; decide) | refine W2_sas ?_ | refine W2_ss ?_ | refine W2_sret ?_ | refine W2_sexit ?_ | ((first | apply W2_sra | apply W2_srda | apply W2_runa | apply W2_runda); (conv => lhs; simp only [go_sem, ibin, ishift]) <;> rfl) | ((first | apply W2_sct | apply W2_t2); (conv => lhs; simp only [go_sem]) <;> rfl; rfl) | ((first | apply W2_scf | apply W2_f2); (conv => lhs; simp only [go_sem]) <;> rfl; rfl) | refine W2_ret ?_ | refine W2_exit ?_ | refine W2_skip ?_ | refine W2_seq ?_ | refine W2_block ?_)
  (((first | with_reducible apply W2_sc | with_reducible apply W2_cond); ((conv => lhs; simp only [go_sem]) <;> with_reducible rfl)) <;> intro hx <;> (try rw [hx]) <;> simp only [Bool.or_eq_true, Bool.and_eq_true, decide_eq_true_eq, Bool.or_eq_false_iff, Bool.and_eq_false_iff, decide_eq_false_iff_not, Bool.not_eq_true', Bool.not_eq_false', bne_iff_ne, beq_iff_eq, not_or, not_and, Decidable.not_not, ne_eq, gt_iff_lt, ge_iff_le, Int.not_lt, Int.not_le] at hx)
  · have hbl : b < A.length := by omega
    have hg := List.getElem?_eq_getElem hbl
    have htk : A.take (b + 1) = A.take b ++ [A[b]] := by rw [List.take_add_one, List.getElem?_eq_getElem hbl]; rfl
    have hmq := hAm _ (List.getElem_mem hbl)
    generalize A[b] = d at hg hmq htk
    obtain ⟨a0, hf, hl5⟩ := find hmq
    have hs : (x || (A.take (b + 1)).any fun d => d.ns.any fun y => decide (y = w)) = ((x || (A.take b).any fun d => d.ns.any fun y => decide (y = w)) || d.ns.any fun y => decide (y = w)) := by rw [htk, List.any_append]; simp [Bool.or_assoc]
    generalize (x || (A.take b).any fun d => d.ns.any fun y => decide (y = w)) = f at hs
    (repeat' with_reducible first | refine thn2_nrm ?_ | refine thn2_ret ?_ | refine thn2_ex ?_ | refine blk2_nrm ?_ | refine blk2_ret ?_ | refine blk2_at ?_ | (refine blk2_ex ?_ ?_; decide) | refine W2_sas ?_ | refine W2_ss ?_ | refine W2_sret ?_ | refine W2_sexit ?_ | ((first | apply W2_sra | apply W2_srda | apply W2_runa | apply W2_runda); (conv => lhs; simp only [go_sem, ibin, ishift, hg, hbl, cI, hf, Wv, List.length_map]) <;> rfl) | ((first | apply W2_sct | apply W2_t2); (conv => lhs; simp only [go_sem]) <;> rfl; rfl) | ((first | apply W2_scf | apply W2_f2); (conv => lhs; simp only [go_sem]) <;> rfl; rfl) | refine W2_ret ?_ | refine W2_exit ?_ | refine W2_skip ?_ | refine W2_seq ?_ | refine W2_block ?_)
    refine W2_loopu (fun m u g => ∃ c, c + m = d.ns.length ∧ u = [(23, .b (f || (d.ns.take c).any fun y => decide (y = w))), (215, .i .i64 c)] ∧ g = []) d.ns.length ⟨0, by omega, rfl, rfl⟩ (by simp [supE, egd]) rfl ?_
    rintro m u g ⟨c, hc, rfl, rfl⟩
    intro e1 h1 he1 hh1; simp only [egd, supE, hgd, supH, Nat.reduceEqDiff, Nat.reduceAdd, if_true, if_false, reduceIte] at he1 hh1; subst he1; subst hh1
    (repeat' with_reducible first | refine thn2_nrm ?_ | refine thn2_ret ?_ | refine thn2_ex ?_ | refine blk2_nrm ?_ | refine blk2_ret ?_ | refine blk2_at ?_ | (refine blk2_ex ?_ ?_; decide) | refine W2_sas ?_ | refine W2_ss ?_ | refine W2_sret ?_ | refine W2_sexit ?_ | ((first | apply W2_sra | apply W2_srda | apply W2_runa | apply W2_runda); (conv => lhs; simp only [go_sem, ibin, ishift]) <;> rfl) | ((first | apply W2_sct | apply W2_t2); (conv => lhs; simp only [go_sem]) <;> rfl; rfl) | ((first | apply W2_scf | apply W2_f2); (conv => lhs; simp only [go_sem]) <;> rfl; rfl) | refine W2_ret ?_ | refine W2_exit ?_ | refine W2_skip ?_ | refine W2_seq ?_ | refine W2_block ?_)
    (((first | with_reducible apply W2_sc | with_reducible apply W2_cond); ((conv => lhs; simp only [go_sem]) <;> with_reducible rfl)) <;> intro hx <;> (try rw [hx]) <;> simp only [Bool.or_eq_true, Bool.and_eq_true, decide_eq_true_eq, Bool.or_eq_false_iff, Bool.and_eq_false_iff, decide_eq_false_iff_not, Bool.not_eq_true', Bool.not_eq_false', bne_iff_ne, beq_iff_eq, not_or, not_and, Decidable.not_not, ne_eq, gt_iff_lt, ge_iff_le, Int.not_lt, Int.not_le] at hx)
    · have hcl : c < d.ns.length := by omega
      have hg2 := List.getElem?_eq_getElem hcl
      have htk2 : d.ns.take (c + 1) = d.ns.take c ++ [d.ns[c]] := by rw [List.take_add_one, List.getElem?_eq_getElem hcl]; rfl
      generalize d.ns[c] = y at hg2 htk2
      have hs2 : (f || (d.ns.take (c + 1)).any fun y => decide (y = w)) = ((f || (d.ns.take c).any fun y => decide (y = w)) || decide (y = w)) := by rw [htk2, List.any_append]; simp [Bool.or_assoc]
      generalize (f || (d.ns.take c).any fun y => decide (y = w)) = f2 at hs2
      (repeat' with_reducible first | refine thn2_nrm ?_ | refine thn2_ret ?_ | refine thn2_ex ?_ | refine blk2_nrm ?_ | refine blk2_ret ?_ | refine blk2_at ?_ | (refine blk2_ex ?_ ?_; decide) | refine W2_sas ?_ | refine W2_ss ?_ | refine W2_sret ?_ | refine W2_sexit ?_ | ((first | apply W2_sra | apply W2_srda | apply W2_runa | apply W2_runda); (conv => lhs; simp only [go_sem, ibin, ishift, hg2, hcl, cI, wS (show c < 9223372036854775807 by omega)]) <;> rfl) | ((first | apply W2_sct | apply W2_t2); (conv => lhs; simp only [go_sem]) <;> rfl; rfl) | ((first | apply W2_scf | apply W2_f2); (conv => lhs; simp only [go_sem]) <;> rfl; rfl) | refine W2_ret ?_ | refine W2_exit ?_ | refine W2_skip ?_ | refine W2_seq ?_ | refine W2_block ?_)
      refine ⟨[0, 1, 2, 3], by decide, rfl, ?_⟩
      exact ⟨d.ns.length - (c + 1), _, _, by omega, ⟨c + 1, by omega, by rw [hs2], rfl⟩, rfl, (by first | rfl | ((conv => lhs; simp only [go_sem, ibin, ishift]) <;> rfl))⟩
    · have : c = d.ns.length := by omega
      subst this
      rw [List.take_length]
      (repeat' with_reducible first | refine thn2_nrm ?_ | refine thn2_ret ?_ | refine thn2_ex ?_ | refine blk2_nrm ?_ | refine blk2_ret ?_ | refine blk2_at ?_ | (refine blk2_ex ?_ ?_; decide) | refine W2_sas ?_ | refine W2_ss ?_ | refine W2_sret ?_ | refine W2_sexit ?_ | ((first | apply W2_sra | apply W2_srda | apply W2_runa | apply W2_runda); (conv => lhs; simp only [go_sem, ibin, ishift, wS (show b < 9223372036854775807 by omega)]) <;> rfl) | ((first | apply W2_sct | apply W2_t2); (conv => lhs; simp only [go_sem]) <;> rfl; rfl) | ((first | apply W2_scf | apply W2_f2); (conv => lhs; simp only [go_sem]) <;> rfl; rfl) | refine W2_ret ?_ | refine W2_exit ?_ | refine W2_skip ?_ | refine W2_seq ?_ | refine W2_block ?_)
      refine ⟨[0, 1, 2, 3], by decide, rfl, ?_⟩
      exact ⟨k - (b + 1), _, _, by omega, ⟨b + 1, by omega, by rw [hs], rfl⟩, rfl, (by first | rfl | ((conv => lhs; simp only [go_sem, ibin, ishift]) <;> rfl))⟩
  · have : b = k := by omega
    subst this
    rw [List.take_of_length_le (by omega)]
    (repeat' with_reducible first | refine thn2_nrm ?_ | refine thn2_ret ?_ | refine thn2_ex ?_ | refine blk2_nrm ?_ | refine blk2_ret ?_ | refine blk2_at ?_ | (refine blk2_ex ?_ ?_; decide) | refine W2_sas ?_ | refine W2_ss ?_ | refine W2_sret ?_ | refine W2_sexit ?_ | ((first | apply W2_sra | apply W2_srda | apply W2_runa | apply W2_runda); (conv => lhs; simp only [go_sem, ibin, ishift]) <;> rfl) | ((first | apply W2_sct | apply W2_t2); (conv => lhs; simp only [go_sem]) <;> rfl; rfl) | ((first | apply W2_scf | apply W2_f2); (conv => lhs; simp only [go_sem]) <;> rfl; rfl) | refine W2_ret ?_ | refine W2_exit ?_ | refine W2_skip ?_ | refine W2_seq ?_ | refine W2_block ?_)
    exact hq
set_option maxHeartbeats 2000000 in
/-- who waits wants what is held, or wanted ahead -/
theorem whole_waits (c : TabL10 T) {N i : Nat} (hi : i ≤ 200) {n0 : Int} {L : List (List PV)} {t : Tab} {ws : List Clm} (hP : Pre N i t ws []) {Q : XT → SE → SH → Prop}
    (hq : Q (.ex 9) [(0, .i .i64 N), (1, .fz 4 L), (5, .ptr 0 0), (7, .mp 3), (8, .i .i64 n0), (20, .fz 1 ((t.q.map Clm.t).map cI)), (174, .fz 1 ((t.q.map Clm.t).map cI)), (175, .i .i64 t.q.length), (176, .i .i64 t.q.length), (177, .b false)] (wholeH t ws)) :
    W2 T 0 (.loop c_stillagelaw10_ClaimWhole_b48) [(0, .i .i64 N), (1, .fz 4 L), (5, .ptr 0 0), (7, .mp 3), (8, .i .i64 n0), (20, .fz 1 ((t.q.map Clm.t).map cI)), (174, .fz 1 ((t.q.map Clm.t).map cI)), (175, .i .i64 t.q.length), (176, .i .i64 0)] (wholeH t ws) Q := by
  have hql := hP.qlen.1
  have find : ∀ {d : Clm}, d ∈ t.q → ∃ a, findX Clm.t d.t ws 0 = some (a, d) ∧ d.ns.length ≤ 5 := fun {d} hd => by
    have hm := hP.mem (.inr hd)
    obtain ⟨a, h1, _⟩ := findX_of hP.nd hm
    exact ⟨a, h1, (hP.ok d hm).2.2.1⟩
  unfold wholeH at hq ⊢
  refine W2_loopu (fun m u g => ∃ k, k + m = t.q.length ∧ u = [(176, .i .i64 k)] ∧ g = []) t.q.length ⟨0, by omega, rfl, rfl⟩ rfl rfl ?_
  rintro m u g ⟨k, hk, rfl, rfl⟩
  intro e1 h1 he1 hh1; simp only [egd, supE, hgd, supH, Nat.reduceEqDiff, Nat.reduceAdd, if_true, if_false, reduceIte] at he1 hh1; subst he1; subst hh1
  (repeat' with_reducible first | refine thn2_nrm ?_ | refine thn2_ret ?_ | refine thn2_ex ?_ | refine blk2_nrm ?_ | refine blk2_ret ?_ | refine blk2_at ?_ | (refine blk2_ex ?_ ?_; decide) | refine W2_sas ?_ | refine W2_ss ?_ | refine W2_sret ?_ | refine W2_sexit ?_ | ((first | apply W2_sra | apply W2_srda | apply W2_runa | apply W2_runda); (conv => lhs; simp only [go_sem, ibin, ishift]) <;> rfl) | ((first | apply W2_sct | apply W2_t2); (conv => lhs; simp only [go_sem]) <;> rfl; rfl) | ((first | apply W2_scf | apply W2_f2); (conv => lhs; simp only [go_sem]) <;> rfl; rfl) | refine W2_ret ?_ | refine W2_exit ?_ | refine W2_skip ?_ | refine W2_seq ?_ | refine W2_block ?_)
  (((first | with_reducible apply W2_sc | with_reducible apply W2_cond); ((conv => lhs; simp only [go_sem]) <;> with_reducible rfl)) <;> intro hx <;> (try rw [hx]) <;> simp only [Bool.or_eq_true, Bool.and_eq_true, decide_eq_true_eq, Bool.or_eq_false_iff, Bool.and_eq_false_iff, decide_eq_false_iff_not, Bool.not_eq_true', Bool.not_eq_false', bne_iff_ne, beq_iff_eq, not_or, not_and, Decidable.not_not, ne_eq, gt_iff_lt, ge_iff_le, Int.not_lt, Int.not_le] at hx)
  · have hkl : k < t.q.length := by omega
    have hg := List.getElem?_eq_getElem hkl
    have hwt := @Pre.waits N i t ws hP k
    have hmq := List.getElem_mem hkl
    have hgg := hg
    generalize t.q[k] = cl at hg hmq
    have hwt := hwt hg
    obtain ⟨a0, hf, hl5⟩ := find hmq
    (repeat' with_reducible first | refine thn2_nrm ?_ | refine thn2_ret ?_ | refine thn2_ex ?_ | refine blk2_nrm ?_ | refine blk2_ret ?_ | refine blk2_at ?_ | (refine blk2_ex ?_ ?_; decide) | refine W2_sas ?_ | refine W2_ss ?_ | refine W2_sret ?_ | refine W2_sexit ?_ | ((first | apply W2_sra | apply W2_srda | apply W2_runa | apply W2_runda); (conv => lhs; simp only [go_sem, ibin, ishift, hg, hkl, cI, hf, Wv, List.length_map]) <;> rfl) | ((first | apply W2_sct | apply W2_t2); (conv => lhs; simp only [go_sem]) <;> rfl; rfl) | ((first | apply W2_scf | apply W2_f2); (conv => lhs; simp only [go_sem]) <;> rfl; rfl) | refine W2_ret ?_ | refine W2_exit ?_ | refine W2_skip ?_ | refine W2_seq ?_ | refine W2_block ?_)
    refine W2_loopu (fun m u g => ∃ a, a + m = cl.ns.length ∧ u = [(23, .b ((cl.ns.take a).any (wantB t k cl.t))), (185, .i .i64 a)] ∧ g = []) cl.ns.length ⟨0, by omega, rfl, rfl⟩ rfl rfl ?_
    rintro m u g ⟨a, ha, rfl, rfl⟩
    intro e1 h1 he1 hh1; simp only [egd, supE, hgd, supH, Nat.reduceEqDiff, Nat.reduceAdd, if_true, if_false, reduceIte] at he1 hh1; subst he1; subst hh1
    (repeat' with_reducible first | refine thn2_nrm ?_ | refine thn2_ret ?_ | refine thn2_ex ?_ | refine blk2_nrm ?_ | refine blk2_ret ?_ | refine blk2_at ?_ | (refine blk2_ex ?_ ?_; decide) | refine W2_sas ?_ | refine W2_ss ?_ | refine W2_sret ?_ | refine W2_sexit ?_ | ((first | apply W2_sra | apply W2_srda | apply W2_runa | apply W2_runda); (conv => lhs; simp only [go_sem, ibin, ishift]) <;> rfl) | ((first | apply W2_sct | apply W2_t2); (conv => lhs; simp only [go_sem]) <;> rfl; rfl) | ((first | apply W2_scf | apply W2_f2); (conv => lhs; simp only [go_sem]) <;> rfl; rfl) | refine W2_ret ?_ | refine W2_exit ?_ | refine W2_skip ?_ | refine W2_seq ?_ | refine W2_block ?_)
    (((first | with_reducible apply W2_sc | with_reducible apply W2_cond); ((conv => lhs; simp only [go_sem]) <;> with_reducible rfl)) <;> intro hx <;> (try rw [hx]) <;> simp only [Bool.or_eq_true, Bool.and_eq_true, decide_eq_true_eq, Bool.or_eq_false_iff, Bool.and_eq_false_iff, decide_eq_false_iff_not, Bool.not_eq_true', Bool.not_eq_false', bne_iff_ne, beq_iff_eq, not_or, not_and, Decidable.not_not, ne_eq, gt_iff_lt, ge_iff_le, Int.not_lt, Int.not_le] at hx)
    · have hal : a < cl.ns.length := by omega
      have hg2 := List.getElem?_eq_getElem hal
      have htk : cl.ns.take (a + 1) = cl.ns.take a ++ [cl.ns[a]] := by rw [List.take_add_one, List.getElem?_eq_getElem hal]; rfl
      generalize cl.ns[a] = w at hg2 htk
      have hs : (cl.ns.take (a + 1)).any (wantB t k cl.t) = ((cl.ns.take a).any (wantB t k cl.t) || wantB t k cl.t w) := by rw [htk, List.any_append]; simp
      generalize (cl.ns.take a).any (wantB t k cl.t) = f at hs
      have hk0 : (0 : Int) ≤ (k : Int) := by omega
      have hkq : (k : Int) ≤ (t.q.length : Int) := by omega
      have hlk : (t.q.take k).length = k := by rw [List.length_take]; omega
      have hwa := wS (show a < 9223372036854775807 by omega)
      cases f with
      | true =>
        (repeat' with_reducible first | refine thn2_nrm ?_ | refine thn2_ret ?_ | refine thn2_ex ?_ | refine blk2_nrm ?_ | refine blk2_ret ?_ | refine blk2_at ?_ | (refine blk2_ex ?_ ?_; decide) | refine W2_sas ?_ | refine W2_ss ?_ | refine W2_sret ?_ | refine W2_sexit ?_ | ((first | apply W2_sra | apply W2_srda | apply W2_runa | apply W2_runda); (conv => lhs; simp only [go_sem, ibin, ishift, hg2, hal, cI]) <;> rfl) | ((first | apply W2_sct | apply W2_t2); (conv => lhs; simp only [go_sem]) <;> rfl; rfl) | ((first | apply W2_scf | apply W2_f2); (conv => lhs; simp only [go_sem]) <;> rfl; rfl) | refine W2_ret ?_ | refine W2_exit ?_ | refine W2_skip ?_ | refine W2_seq ?_ | refine W2_block ?_)
        (repeat' with_reducible first | refine thn2_nrm ?_ | refine thn2_ret ?_ | refine thn2_ex ?_ | refine blk2_nrm ?_ | refine blk2_ret ?_ | refine blk2_at ?_ | (refine blk2_ex ?_ ?_; decide) | refine W2_sas ?_ | refine W2_ss ?_ | refine W2_sret ?_ | refine W2_sexit ?_ | ((first | apply W2_sra | apply W2_srda | apply W2_runa | apply W2_runda); (conv => lhs; simp only [go_sem, ibin, ishift, hk0, hkq, Int.le_refl, List.length_map, hlk]) <;> rfl) | ((first | apply W2_sct | apply W2_t2); (conv => lhs; simp only [go_sem]) <;> rfl; rfl) | ((first | apply W2_scf | apply W2_f2); (conv => lhs; simp only [go_sem]) <;> rfl; rfl) | refine W2_ret ?_ | refine W2_exit ?_ | refine W2_skip ?_ | refine W2_seq ?_ | refine W2_block ?_)
        refine whole_ahead find hkl (by omega) (x := true) ?_
        unfold wholeH
        (repeat' with_reducible first | refine thn2_nrm ?_ | refine thn2_ret ?_ | refine thn2_ex ?_ | refine blk2_nrm ?_ | refine blk2_ret ?_ | refine blk2_at ?_ | (refine blk2_ex ?_ ?_; decide) | refine W2_sas ?_ | refine W2_ss ?_ | refine W2_sret ?_ | refine W2_sexit ?_ | ((first | apply W2_sra | apply W2_srda | apply W2_runa | apply W2_runda); (conv => lhs; simp only [go_sem, ibin, ishift, hwa]) <;> rfl) | ((first | apply W2_sct | apply W2_t2); (conv => lhs; simp only [go_sem]) <;> rfl; rfl) | ((first | apply W2_scf | apply W2_f2); (conv => lhs; simp only [go_sem]) <;> rfl; rfl) | refine W2_ret ?_ | refine W2_exit ?_ | refine W2_skip ?_ | refine W2_seq ?_ | refine W2_block ?_)
        refine ⟨[0, 1, 2, 3], by decide, rfl, ?_⟩
        exact ⟨cl.ns.length - (a + 1), _, _, by omega, ⟨a + 1, by omega, by rw [hs], rfl⟩, rfl, (by first | rfl | ((conv => lhs; simp only [go_sem, ibin, ishift]) <;> rfl))⟩
      | false =>
        (repeat' with_reducible first | refine thn2_nrm ?_ | refine thn2_ret ?_ | refine thn2_ex ?_ | refine blk2_nrm ?_ | refine blk2_ret ?_ | refine blk2_at ?_ | (refine blk2_ex ?_ ?_; decide) | refine W2_sas ?_ | refine W2_ss ?_ | refine W2_sret ?_ | refine W2_sexit ?_ | ((first | apply W2_sra | apply W2_srda | apply W2_runa | apply W2_runda); (conv => lhs; simp only [go_sem, ibin, ishift, hg2, hal, cI]) <;> rfl) | ((first | apply W2_sct | apply W2_t2); (conv => lhs; simp only [go_sem]) <;> rfl; rfl) | ((first | apply W2_scf | apply W2_f2); (conv => lhs; simp only [go_sem]) <;> rfl; rfl) | refine W2_ret ?_ | refine W2_exit ?_ | refine W2_skip ?_ | refine W2_seq ?_ | refine W2_block ?_)
        ((with_reducible first | apply W2_scall | apply W2_scalld | apply W2_calla | apply W2_callda | apply run2a_sound); ((conv => lhs; simp only [go_sem, ibin, ishift]) <;> with_reducible rfl))
        refine CK_call [0, 1, 2] (holder_spec c.toTabC3 t w) (by decide) (by simp) rfl rfl rfl ?_
        rintro v h' ⟨rfl, rfl⟩
        unfold Tab.h
        by_cases hz : t.holder w = 0
        · have hx : wantB t k cl.t w = (t.q.take k).any fun d => d.ns.any fun y => decide (y = w) := by simp [wantB, hz]
          rw [hz]
          ((with_reducible first | apply WO2_finw | apply WO2_fina); ((conv => lhs; simp only [go_sem, ibin, ishift]) <;> with_reducible rfl))
          (repeat' with_reducible first | refine thn2_nrm ?_ | refine thn2_ret ?_ | refine thn2_ex ?_ | refine blk2_nrm ?_ | refine blk2_ret ?_ | refine blk2_at ?_ | (refine blk2_ex ?_ ?_; decide) | refine W2_sas ?_ | refine W2_ss ?_ | refine W2_sret ?_ | refine W2_sexit ?_ | ((first | apply W2_sra | apply W2_srda | apply W2_runa | apply W2_runda); (conv => lhs; simp only [go_sem, ibin, ishift, hk0, hkq, Int.le_refl, List.length_map, hlk]) <;> rfl) | ((first | apply W2_sct | apply W2_t2); (conv => lhs; simp only [go_sem]) <;> rfl; rfl) | ((first | apply W2_scf | apply W2_f2); (conv => lhs; simp only [go_sem]) <;> rfl; rfl) | refine W2_ret ?_ | refine W2_exit ?_ | refine W2_skip ?_ | refine W2_seq ?_ | refine W2_block ?_)
          refine whole_ahead find hkl (by omega) (x := false) ?_
          unfold wholeH
          (repeat' with_reducible first | refine thn2_nrm ?_ | refine thn2_ret ?_ | refine thn2_ex ?_ | refine blk2_nrm ?_ | refine blk2_ret ?_ | refine blk2_at ?_ | (refine blk2_ex ?_ ?_; decide) | refine W2_sas ?_ | refine W2_ss ?_ | refine W2_sret ?_ | refine W2_sexit ?_ | ((first | apply W2_sra | apply W2_srda | apply W2_runa | apply W2_runda); (conv => lhs; simp only [go_sem, ibin, ishift, hwa]) <;> rfl) | ((first | apply W2_sct | apply W2_t2); (conv => lhs; simp only [go_sem]) <;> rfl; rfl) | ((first | apply W2_scf | apply W2_f2); (conv => lhs; simp only [go_sem]) <;> rfl; rfl) | refine W2_ret ?_ | refine W2_exit ?_ | refine W2_skip ?_ | refine W2_seq ?_ | refine W2_block ?_)
          refine ⟨[0, 1, 2, 3], by decide, rfl, ?_⟩
          exact ⟨cl.ns.length - (a + 1), _, _, by omega, ⟨a + 1, by omega, by rw [hs, hx], rfl⟩, rfl, (by first | rfl | ((conv => lhs; simp only [go_sem, ibin, ishift]) <;> rfl))⟩
        · have hzd : decide (t.holder w = 0) = false := decide_eq_false hz
          have hx : wantB t k cl.t w = (!decide (t.holder w = cl.t) || (t.q.take k).any fun d => d.ns.any fun y => decide (y = w)) := by simp [wantB, hz]
          ((with_reducible first | apply W2_scall | apply W2_scalld | apply W2_calla | apply W2_callda | apply run2a_sound); ((conv => lhs; simp only [go_sem, ibin, ishift, hzd]) <;> with_reducible rfl))
          refine CK_call [0, 1, 2] (holder_spec c.toTabC3 t w) (by decide) (by simp) rfl rfl rfl ?_
          rintro v h' ⟨rfl, rfl⟩
          unfold Tab.h
          ((with_reducible first | apply WO2_finw | apply WO2_fina); ((conv => lhs; simp only [go_sem, ibin, ishift]) <;> with_reducible rfl))
          (repeat' with_reducible first | refine thn2_nrm ?_ | refine thn2_ret ?_ | refine thn2_ex ?_ | refine blk2_nrm ?_ | refine blk2_ret ?_ | refine blk2_at ?_ | (refine blk2_ex ?_ ?_; decide) | refine W2_sas ?_ | refine W2_ss ?_ | refine W2_sret ?_ | refine W2_sexit ?_ | ((first | apply W2_sra | apply W2_srda | apply W2_runa | apply W2_runda); (conv => lhs; simp only [go_sem, ibin, ishift, hk0, hkq, Int.le_refl, List.length_map, hlk]) <;> rfl) | ((first | apply W2_sct | apply W2_t2); (conv => lhs; simp only [go_sem]) <;> rfl; rfl) | ((first | apply W2_scf | apply W2_f2); (conv => lhs; simp only [go_sem]) <;> rfl; rfl) | refine W2_ret ?_ | refine W2_exit ?_ | refine W2_skip ?_ | refine W2_seq ?_ | refine W2_block ?_)
          refine whole_ahead find hkl (by omega) (x := !decide (t.holder w = cl.t)) ?_
          unfold wholeH
          (repeat' with_reducible first | refine thn2_nrm ?_ | refine thn2_ret ?_ | refine thn2_ex ?_ | refine blk2_nrm ?_ | refine blk2_ret ?_ | refine blk2_at ?_ | (refine blk2_ex ?_ ?_; decide) | refine W2_sas ?_ | refine W2_ss ?_ | refine W2_sret ?_ | refine W2_sexit ?_ | ((first | apply W2_sra | apply W2_srda | apply W2_runa | apply W2_runda); (conv => lhs; simp only [go_sem, ibin, ishift, hwa]) <;> rfl) | ((first | apply W2_sct | apply W2_t2); (conv => lhs; simp only [go_sem]) <;> rfl; rfl) | ((first | apply W2_scf | apply W2_f2); (conv => lhs; simp only [go_sem]) <;> rfl; rfl) | refine W2_ret ?_ | refine W2_exit ?_ | refine W2_skip ?_ | refine W2_seq ?_ | refine W2_block ?_)
          refine ⟨[0, 1, 2, 3], by decide, rfl, ?_⟩
          exact ⟨cl.ns.length - (a + 1), _, _, by omega, ⟨a + 1, by omega, by rw [hs, hx], rfl⟩, rfl, (by first | rfl | ((conv => lhs; simp only [go_sem, ibin, ishift]) <;> rfl))⟩
    · have : a = cl.ns.length := by omega
      subst this
      rw [List.take_length, hwt]
      have hwk := wS (show k < 9223372036854775807 by omega)
      (repeat' with_reducible first | refine thn2_nrm ?_ | refine thn2_ret ?_ | refine thn2_ex ?_ | refine blk2_nrm ?_ | refine blk2_ret ?_ | refine blk2_at ?_ | (refine blk2_ex ?_ ?_; decide) | refine W2_sas ?_ | refine W2_ss ?_ | refine W2_sret ?_ | refine W2_sexit ?_ | ((first | apply W2_sra | apply W2_srda | apply W2_runa | apply W2_runda); (conv => lhs; simp only [go_sem, ibin, ishift, hwk]) <;> rfl) | ((first | apply W2_sct | apply W2_t2); (conv => lhs; simp only [go_sem]) <;> rfl; rfl) | ((first | apply W2_scf | apply W2_f2); (conv => lhs; simp only [go_sem]) <;> rfl; rfl) | refine W2_ret ?_ | refine W2_exit ?_ | refine W2_skip ?_ | refine W2_seq ?_ | refine W2_block ?_)
      refine ⟨[0, 1, 2, 3], by decide, rfl, ?_⟩
      exact ⟨t.q.length - (k + 1), _, _, by omega, ⟨k + 1, by omega, rfl, rfl⟩, rfl, (by first | rfl | ((conv => lhs; simp only [go_sem, ibin, ishift]) <;> rfl))⟩
  · have : k = t.q.length := by omega
    subst this
    (repeat' with_reducible first | refine thn2_nrm ?_ | refine thn2_ret ?_ | refine thn2_ex ?_ | refine blk2_nrm ?_ | refine blk2_ret ?_ | refine blk2_at ?_ | (refine blk2_ex ?_ ?_; decide) | refine W2_sas ?_ | refine W2_ss ?_ | refine W2_sret ?_ | refine W2_sexit ?_ | ((first | apply W2_sra | apply W2_srda | apply W2_runa | apply W2_runda); (conv => lhs; simp only [go_sem, ibin, ishift]) <;> rfl) | ((first | apply W2_sct | apply W2_t2); (conv => lhs; simp only [go_sem]) <;> rfl; rfl) | ((first | apply W2_scf | apply W2_f2); (conv => lhs; simp only [go_sem]) <;> rfl; rfl) | refine W2_ret ?_ | refine W2_exit ?_ | refine W2_skip ?_ | refine W2_seq ?_ | refine W2_block ?_)
    exact hq
end Go.Proofs.Ytpgoemmjhnnmoaa.Ab
