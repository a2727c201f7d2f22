/- Chapter 20: PlantStill. -/
import Derived.Test.YtpblhjaghkkdhaaY20h
import Derived.Test.YtpblhjaghkkdhaaY20i
namespace Go.Proofs.Ytpblhjaghkkdhaa.Ab
open Go
set_option linter.unusedVariables false
set_option linter.unusedSimpArgs false
variable {T : AT}
def stillH (lay : Lay) (p : Pl) (was : List Int) : SH := [some (.obj [.fz 3 (lay.ns.map cN), .fz 2 (lay.es.map cD)]), some (.obj [.fz 2 (p.es.map cD), .sl 1 2 0 p.at_.length none, .sl 4 3 0 p.ds.length none, .i .i64 p.mv]), some (.arr 1 (p.at_.map cI)), some (.arr 4 (p.ds.map cV)), some (.obj (was.map fun n => SV.p (PV.i .i64 n)))]
/-- how many totes end where -/
def Ends (p : Pl) (t : Nat) (l : List Int) : Prop := ∀ (j : Nat) v, l[j]? = some v → v = 0 ∨ ∃ t' : Nat, 1 ≤ t' ∧ t' < t ∧ ixOf t' p.at_ 0 = j
set_option maxHeartbeats 2000000 in
theorem still_tail (c : TabA T) {lay : Lay} {p : Pl} {was : List Int} (hk : p.Ok) (hs : Still p was) (hn : p.at_.length = lay.ns.length) {S : List Op20} {i : Int} {Q : XT → SE → SH → Prop}
    (hq : ∀ er rest, Q (.ex 5) ((1, .fz 8 (S.map cO)) :: (2, .ptr 0 0) :: (5, .ptr 1 0) :: (7, .ptr 4 0) :: (9, .i .i64 i) :: er) (stillH lay p was ++ rest)) :
    W2 T 0 (.loop c_stillagelaw20_PlantStill_b28) [(1, .fz 8 (S.map cO)), (2, .ptr 0 0), (5, .ptr 1 0), (7, .ptr 4 0), (9, .i .i64 i), (15, .sl 1 5 0 lay.ns.length none), (16, .i .i64 1)] (stillH lay p was ++ [some (.arr 1 ((List.replicate lay.ns.length (0 : Int)).map cI))]) Q := by
  unfold stillH
  simp only [List.cons_append, List.nil_append]
  refine W2_loopu (fun m u g => ∃ (t : Nat) (l : List Int), 1 ≤ t ∧ t + m = 31 ∧ l.length = lay.ns.length ∧ Ends p t l ∧ u = [(16, .i .i64 t)] ∧ g = [(5, .arr 1 (l.map cI))]) 30 ⟨1, List.replicate lay.ns.length 0, by omega, by omega, by simp, fun j v h => .inl (List.mem_replicate.1 (List.mem_of_getElem? h)).2, rfl, rfl⟩ rfl rfl ?_
  rintro m u g ⟨t, l, ht1, ht2, hl, he, rfl, rfl⟩
  intro e1 h1 he1 hh1; simp only [egd, supE, hgd, supH, Nat.reduceEqDiff, Nat.reduceAdd, if_true, if_false, reduceIte] at he1 hh1; subst he1; subst hh1
  by_cases h30 : t ≤ 30
  rotate_left
  · have dd : decide ((t : Int) ≤ 30) = false := decide_eq_false (by omega)
    (repeat' with_reducible first | refine thn2_nrm ?_ | refine thn2_ret ?_ | refine thn2_ex ?_ | refine blk2_nrm ?_ | refine blk2_ret ?_ | refine blk2_at ?_ | (refine blk2_ex ?_ ?_; decide) | refine W2_sas ?_ | refine W2_ss ?_ | refine W2_sret ?_ | refine W2_sexit ?_ | ((first | apply W2_sra | apply W2_srda | apply W2_runa | apply W2_runda); (conv => lhs; simp only [go_sem, ibin, ishift, dd]) <;> rfl) | ((first | apply W2_srS | apply W2_runS); decide +kernel; (conv => lhs; simp only [go_sem, ibin, ishift, dd]) <;> rfl) | ((first | apply W2_sct | apply W2_t2); (conv => lhs; simp only [go_sem]) <;> rfl; rfl) | ((first | apply W2_scf | apply W2_f2); (conv => lhs; simp only [go_sem]) <;> rfl; rfl) | refine W2_ret ?_ | refine W2_exit ?_ | refine W2_skip ?_ | refine W2_seq ?_ | refine W2_block ?_)
    have hq1 := hq
    unfold stillH at hq1
    exact hq1 [_, _, _] [_]
  have dd : decide ((t : Int) ≤ 30) = true := decide_eq_true (by omega)
  have hw := hs.eq t ht1 h30
  have hlen := hs.len
  have t0 : (0 : Int) ≤ (t : Int) := by omega
  have t1 : (t : Int) < 31 := by omega
  have t2 : t < was.length := by omega
  have t3 : t < 31 := by omega
  have wt := wS (show t < 9223372036854775807 by omega)
  have hlo : p.loc t = ixOf t p.at_ 0 := by rw [Pl.loc, if_neg (by omega)]
  generalize hX : ixOf t p.at_ 0 = X at hw hlo
  have dX : decide (X = X) = true := by simp
  (repeat' with_reducible first | refine thn2_nrm ?_ | refine thn2_ret ?_ | refine thn2_ex ?_ | refine blk2_nrm ?_ | refine blk2_ret ?_ | refine blk2_at ?_ | (refine blk2_ex ?_ ?_; decide) | refine W2_sas ?_ | refine W2_ss ?_ | refine W2_sret ?_ | refine W2_sexit ?_ | ((first | apply W2_sra | apply W2_srda | apply W2_runa | apply W2_runda); (conv => lhs; simp only [go_sem, ibin, ishift, dd]) <;> rfl) | ((first | apply W2_srS | apply W2_runS); decide +kernel; (conv => lhs; simp only [go_sem, ibin, ishift, dd]) <;> rfl) | ((first | apply W2_sct | apply W2_t2); (conv => lhs; simp only [go_sem]) <;> rfl; rfl) | ((first | apply W2_scf | apply W2_f2); (conv => lhs; simp only [go_sem]) <;> rfl; rfl) | refine W2_ret ?_ | refine W2_exit ?_ | refine W2_skip ?_ | refine W2_seq ?_ | refine W2_block ?_)
  (repeat' with_reducible first | refine thn2_nrm ?_ | refine thn2_ret ?_ | refine thn2_ex ?_ | refine blk2_nrm ?_ | refine blk2_ret ?_ | refine blk2_at ?_ | (refine blk2_ex ?_ ?_; decide) | refine W2_sas ?_ | refine W2_ss ?_ | refine W2_sret ?_ | refine W2_sexit ?_ | refine W2_skip ?_ | ((first | apply W2_sct | apply W2_t2); (conv => lhs; simp only [go_sem]) <;> rfl; rfl) | ((first | apply W2_scf | apply W2_f2); (conv => lhs; simp only [go_sem]) <;> rfl; rfl) | refine W2_block ?_ | refine W2_seq ?_ | refine W2_exit ?_)
  (with_reducible first | apply W2_sregH [4] [false, false, false, false, false, true, false, false] | apply W2_regH [4] [false, false, false, false, false, true, false, false])
  · decide
  · decide
  · rfl
  ((conv => lhs; simp only [go_sem, ibin, ishift, t0, t1, t2, t3, hlen, hw]) <;> with_reducible rfl)
  refine EH_call [1, 2, 3] (where_spec c.toTabP p hk.al t) (by decide) (by simp) rfl rfl rfl (by first | rfl | (simp only [go_sem, Pl.h]; done) | (simp only [go_sem, Pl.h] <;> rfl)) ?_
  rintro v h' ⟨rfl, rfl⟩
  rw [hlo]
  unfold Pl.h
  (with_reducible apply WOH_go (by decide); ((conv => lhs; simp only [go_sem, ibin, ishift, t0, t1, t2, t3, hlen, hw, dX]) <;> with_reducible rfl))
  refine EH_go ?_
  (repeat' with_reducible first | refine thn2_nrm ?_ | refine thn2_ret ?_ | refine thn2_ex ?_ | refine blk2_nrm ?_ | refine blk2_ret ?_ | refine blk2_at ?_ | (refine blk2_ex ?_ ?_; decide) | refine W2_sas ?_ | refine W2_ss ?_ | refine W2_sret ?_ | refine W2_sexit ?_ | ((first | apply W2_sra | apply W2_srda | apply W2_runa | apply W2_runda); (conv => lhs; simp only [go_sem, ibin, ishift, t0, t1, t2, t3, hlen, hw]) <;> rfl) | ((first | apply W2_srS | apply W2_runS); decide +kernel; (conv => lhs; simp only [go_sem, ibin, ishift, t0, t1, t2, t3, hlen, hw]) <;> rfl) | ((first | apply W2_sct | apply W2_t2); (conv => lhs; simp only [go_sem]) <;> rfl; rfl) | ((first | apply W2_scf | apply W2_f2); (conv => lhs; simp only [go_sem]) <;> rfl; rfl) | refine W2_ret ?_ | refine W2_exit ?_ | refine W2_skip ?_ | refine W2_seq ?_ | refine W2_block ?_)
  (((first | with_reducible apply W2_sc | with_reducible apply W2_cond); ((conv => lhs; simp only [go_sem]) <;> with_reducible rfl)) <;> intro hx <;> (try rw [hx]) <;> simp only [Bool.or_eq_true, Bool.and_eq_true, decide_eq_true_eq, Bool.or_eq_false_iff, Bool.and_eq_false_iff, decide_eq_false_iff_not, Bool.not_eq_true', Bool.not_eq_false', bne_iff_ne, beq_iff_eq, not_or, not_and, Decidable.not_not, ne_eq, gt_iff_lt, ge_iff_le, Int.not_lt, Int.not_le] at hx)
  · have hg : p.at_[X.toNat]? = some (t : Int) := by
      have h1 : 0 ≤ ixOf t p.at_ 0 := by rw [hX]; exact hx
      have := ixOf_at h1
      rwa [hX] at this
    have x1 := (List.getElem?_eq_some_iff.1 hg).1
    have x2 : X.toNat < lay.ns.length := by omega
    have x3 : X < (lay.ns.length : Int) := by omega
    have x4 : X.toNat < l.length := by omega
    have x5 : X < (l.length : Int) := by omega
    obtain ⟨v, hv⟩ : ∃ v, l[X.toNat]? = some v := ⟨_, List.getElem?_eq_getElem x4⟩
    have hv0 : v = 0 := by
      rcases he X.toNat v hv with h | ⟨t', h1, h2, h3⟩
      · exact h
      · have h4 : 0 ≤ ixOf t' p.at_ 0 := by omega
        have := ixOf_at h4
        rw [h3, show ((X.toNat : Nat) : Int).toNat = X.toNat by omega, hg] at this
        simp only [Option.some.injEq] at this
        omega
    subst hv0
    have hsv : ∀ R, ((List.map cI l).set X.toNat R)[X.toNat]? = some R := fun R => List.getElem?_set_self (by rw [List.length_map]; exact x4)
    have htt : p.tote X = t := tote_get hx hg
    have dt : decide ((t : Int) = (t : Int)) = true := by simp
    (repeat' with_reducible first | refine thn2_nrm ?_ | refine thn2_ret ?_ | refine thn2_ex ?_ | refine blk2_nrm ?_ | refine blk2_ret ?_ | refine blk2_at ?_ | (refine blk2_ex ?_ ?_; decide) | refine W2_sas ?_ | refine W2_ss ?_ | refine W2_sret ?_ | refine W2_sexit ?_ | ((first | apply W2_sra | apply W2_srda | apply W2_runa | apply W2_runda); (conv => lhs; simp only [go_sem, ibin, ishift, t0, t1, t2, t3, hlen, hw, hx, x2, x3, x4, x5, hv, cI, wr1, hsv]) <;> rfl) | ((first | apply W2_srS | apply W2_runS); decide +kernel; (conv => lhs; simp only [go_sem, ibin, ishift, t0, t1, t2, t3, hlen, hw, hx, x2, x3, x4, x5, hv, cI, wr1, hsv]) <;> rfl) | ((first | apply W2_sct | apply W2_t2); (conv => lhs; simp only [go_sem]) <;> rfl; rfl) | ((first | apply W2_scf | apply W2_f2); (conv => lhs; simp only [go_sem]) <;> rfl; rfl) | refine W2_ret ?_ | refine W2_exit ?_ | refine W2_skip ?_ | refine W2_seq ?_ | refine W2_block ?_)
    (first | (((with_reducible first | apply W2_scall | apply W2_scalld | apply W2_calla | apply W2_callda | apply run2a_sound); ((conv => lhs; simp only [go_sem, ibin, ishift, t0, t1, t2, t3, hlen, hw, hx, x2, x3, x4, x5, hv, cI, wr1, hsv]) <;> with_reducible rfl))) | ((with_reducible first | apply W2_scallS | apply W2_callS); decide +kernel; ((conv => lhs; simp only [go_sem, ibin, ishift, t0, t1, t2, t3, hlen, hw, hx, x2, x3, x4, x5, hv, cI, wr1, hsv]) <;> with_reducible rfl)))
    refine CK_call [1, 2, 3] (at_spec c.toTabP p X) (by decide) (by simp) rfl rfl (by first | rfl | (simp only [go_sem, Pl.h]; done) | (simp only [go_sem, Pl.h] <;> rfl)) ?_
    rintro v h' ⟨rfl, rfl⟩
    rw [htt]
    unfold Pl.h
    ((with_reducible first | apply WO2_finw | apply WO2_fina); ((conv => lhs; simp only [go_sem, ibin, ishift, dt]) <;> with_reducible rfl))
    (repeat' with_reducible first | refine thn2_nrm ?_ | refine thn2_ret ?_ | refine thn2_ex ?_ | refine blk2_nrm ?_ | refine blk2_ret ?_ | refine blk2_at ?_ | (refine blk2_ex ?_ ?_; decide) | refine W2_sas ?_ | refine W2_ss ?_ | refine W2_sret ?_ | refine W2_sexit ?_ | ((first | apply W2_sra | apply W2_srda | apply W2_runa | apply W2_runda); (conv => lhs; simp only [go_sem, ibin, ishift, wt]) <;> rfl) | ((first | apply W2_srS | apply W2_runS); decide +kernel; (conv => lhs; simp only [go_sem, ibin, ishift, wt]) <;> rfl) | ((first | apply W2_sct | apply W2_t2); (conv => lhs; simp only [go_sem]) <;> rfl; rfl) | ((first | apply W2_scf | apply W2_f2); (conv => lhs; simp only [go_sem]) <;> rfl; rfl) | refine W2_ret ?_ | refine W2_exit ?_ | refine W2_skip ?_ | refine W2_seq ?_ | refine W2_block ?_)
    rw [show (List.map cI l).set X.toNat [PV.i .i64 1] = (l.set X.toNat 1).map cI by rw [List.map_set]; rfl]
    refine ⟨[0, 1, 2, 3, 4, 5], by decide, rfl, ?_⟩
    exact ⟨30 - t, _, _, by omega, ⟨t + 1, l.set X.toNat 1, by omega, by omega, by rw [List.length_set]; exact hl, fun j v hj => by
      by_cases e : X.toNat = j
      · subst e; exact .inr ⟨t, by omega, by omega, by rw [hX]; omega⟩
      · rw [List.getElem?_set_ne e] at hj
        rcases he j v hj with h | ⟨t', h1, h2, h3⟩
        · exact .inl h
        · exact .inr ⟨t', h1, by omega, h3⟩, rfl, rfl⟩, rfl, (by first | rfl | ((conv => lhs; simp only [go_sem, ibin, ishift]) <;> rfl))⟩
  · (repeat' with_reducible first | refine thn2_nrm ?_ | refine thn2_ret ?_ | refine thn2_ex ?_ | refine blk2_nrm ?_ | refine blk2_ret ?_ | refine blk2_at ?_ | (refine blk2_ex ?_ ?_; decide) | refine W2_sas ?_ | refine W2_ss ?_ | refine W2_sret ?_ | refine W2_sexit ?_ | ((first | apply W2_sra | apply W2_srda | apply W2_runa | apply W2_runda); (conv => lhs; simp only [go_sem, ibin, ishift, wt]) <;> rfl) | ((first | apply W2_srS | apply W2_runS); decide +kernel; (conv => lhs; simp only [go_sem, ibin, ishift, wt]) <;> rfl) | ((first | apply W2_sct | apply W2_t2); (conv => lhs; simp only [go_sem]) <;> rfl; rfl) | ((first | apply W2_scf | apply W2_f2); (conv => lhs; simp only [go_sem]) <;> rfl; rfl) | refine W2_ret ?_ | refine W2_exit ?_ | refine W2_skip ?_ | refine W2_seq ?_ | refine W2_block ?_)
    refine ⟨[0, 1, 2, 3, 4, 5], by decide, rfl, ?_⟩
    exact ⟨30 - t, _, _, by omega, ⟨t + 1, l, by omega, by omega, hl, fun j v hj => by
      rcases he j v hj with h | ⟨t', h1, h2, h3⟩
      · exact .inl h
      · exact .inr ⟨t', h1, by omega, h3⟩, rfl, rfl⟩, rfl, (by first | rfl | ((conv => lhs; simp only [go_sem, ibin, ishift]) <;> rfl))⟩
end Go.Proofs.Ytpblhjaghkkdhaa.Ab
