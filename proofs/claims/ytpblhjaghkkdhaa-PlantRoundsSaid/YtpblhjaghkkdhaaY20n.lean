/- Chapter 20: PlantRounds. -/
import Derived.Test.YtpblhjaghkkdhaaY20m
namespace Go.Proofs.Ytpblhjaghkkdhaa.Ab
open Go
set_option linter.unusedVariables false
set_option linter.unusedSimpArgs false
variable {T : AT}
set_option maxHeartbeats 2000000 in
theorem plantRounds_law (c : TabA T) (hT : T i_stillagelaw20_PlantRounds = some (.fn c_stillagelaw20_PlantRounds)) (a first b : Int) (hf : 0 ≤ first ∧ first < 65536) :
    Ret2 T 0 i_stillagelaw20_PlantRounds [.i .i64 a, .i .u16 first, .i .i64 b] [] (fun v h' => v = .b true) := by
  refine Ret2_fnv hT rfl rfl ?_
  obtain ⟨N, hN, hN2⟩ : ∃ N : Nat, IntKind.i64.wrap (IntKind.i64.wrap ((IntKind.u64.wrap a).tmod 6) + 2) = (N : Int) ∧ 2 ≤ N ∧ N ≤ 7 := by
    have h1 : (IntKind.u64.wrap a).tmod 6 = IntKind.u64.wrap a % 6 := Int.tmod_eq_emod_of_nonneg (by rw [u64_wrap]; omega)
    rw [h1, wi (IntKind.u64.wrap a % 6) (by omega) (by omega), wi _ (by omega) (by omega)]
    exact ⟨(IntKind.u64.wrap a % 6 + 2).toNat, by omega, by omega, by omega⟩
  obtain ⟨S, hS, hS2⟩ : ∃ S : Nat, IntKind.i64.wrap ((IntKind.u64.wrap b).tmod 60) = (S : Int) ∧ S < 60 := by
    have h1 : (IntKind.u64.wrap b).tmod 60 = IntKind.u64.wrap b % 60 := Int.tmod_eq_emod_of_nonneg (by rw [u64_wrap]; omega)
    rw [h1, wi _ (by omega) (by omega)]
    exact ⟨(IntKind.u64.wrap b % 60).toNat, by omega, by omega⟩
  (repeat' with_reducible first | refine thn2_nrm ?_ | refine thn2_ret ?_ | refine thn2_ex ?_ | refine blk2_nrm ?_ | refine blk2_ret ?_ | refine blk2_at ?_ | (refine blk2_ex ?_ ?_; decide) | refine W2_sas ?_ | refine W2_ss ?_ | refine W2_sret ?_ | refine W2_sexit ?_ | ((first | apply W2_sra | apply W2_srda | apply W2_runa | apply W2_runda); (conv => lhs; simp only [go_sem, ibin, ishift]) <;> rfl) | ((first | apply W2_srS | apply W2_runS); decide +kernel; (conv => lhs; simp only [go_sem, ibin, ishift]) <;> rfl) | ((first | apply W2_sct | apply W2_t2); (conv => lhs; simp only [go_sem]) <;> rfl; rfl) | ((first | apply W2_scf | apply W2_f2); (conv => lhs; simp only [go_sem]) <;> rfl; rfl) | refine W2_ret ?_ | refine W2_exit ?_ | refine W2_skip ?_ | refine W2_seq ?_ | refine W2_block ?_)
  (first | (((with_reducible first | apply W2_scall | apply W2_scalld | apply W2_calla | apply W2_callda | apply run2a_sound); ((conv => lhs; simp only [go_sem, ibin, ishift]) <;> with_reducible rfl))) | ((with_reducible first | apply W2_scallS | apply W2_callS); decide +kernel; ((conv => lhs; simp only [go_sem, ibin, ishift]) <;> with_reducible rfl)))
  refine CK_pure (awake_spec c) rfl ?_
  rintro v h' ⟨rfl, rfl⟩
  ((with_reducible first | apply WO2_finw | apply WO2_fina); ((conv => lhs; simp only [go_sem, ibin, ishift]) <;> with_reducible rfl))
  (repeat' with_reducible first | refine thn2_nrm ?_ | refine thn2_ret ?_ | refine thn2_ex ?_ | refine blk2_nrm ?_ | refine blk2_ret ?_ | refine blk2_at ?_ | (refine blk2_ex ?_ ?_; decide) | refine W2_sas ?_ | refine W2_ss ?_ | refine W2_sret ?_ | refine W2_sexit ?_ | ((first | apply W2_sra | apply W2_srda | apply W2_runa | apply W2_runda); (conv => lhs; simp only [go_sem, ibin, ishift, hN, hS]) <;> rfl) | ((first | apply W2_srS | apply W2_runS); decide +kernel; (conv => lhs; simp only [go_sem, ibin, ishift, hN, hS]) <;> rfl) | ((first | apply W2_sct | apply W2_t2); (conv => lhs; simp only [go_sem]) <;> rfl; rfl) | ((first | apply W2_scf | apply W2_f2); (conv => lhs; simp only [go_sem]) <;> rfl; rfl) | refine W2_ret ?_ | refine W2_exit ?_ | refine W2_skip ?_ | refine W2_seq ?_ | refine W2_block ?_)
  refine W2.weak (Wk.nilc 0 0 3 rfl rfl) ?_
  refine W2.weak (Wk.nilc 0 1 2 rfl rfl) ?_
  refine W2_loopu (fun m u g => ∃ i, i + m = N ∧ u = [(8, .i .i64 i)] ∧ g = [(0, .obj [.sl 3 1 0 i none, .sl 2 2 0 i none]), (1, .arr 3 (((List.range i).map ringN).map cN)), (2, .arr 2 (((List.range i).map (ringE N)).map cD))]) N ⟨0, by omega, rfl, rfl⟩ rfl rfl ?_
  rintro m u g ⟨i, hi, rfl, rfl⟩
  intro e1 h1 he1 hh1; simp only [egd, supE, hgd, supH, Nat.reduceEqDiff, Nat.reduceAdd, if_true, if_false, reduceIte] at he1 hh1; subst he1; subst hh1
  (repeat' with_reducible first | refine thn2_nrm ?_ | refine thn2_ret ?_ | refine thn2_ex ?_ | refine blk2_nrm ?_ | refine blk2_ret ?_ | refine blk2_at ?_ | (refine blk2_ex ?_ ?_; decide) | refine W2_sas ?_ | refine W2_ss ?_ | refine W2_sret ?_ | refine W2_sexit ?_ | ((first | apply W2_sra | apply W2_srda | apply W2_runa | apply W2_runda); (conv => lhs; simp only [go_sem, ibin, ishift]) <;> rfl) | ((first | apply W2_srS | apply W2_runS); decide +kernel; (conv => lhs; simp only [go_sem, ibin, ishift]) <;> rfl) | ((first | apply W2_sct | apply W2_t2); (conv => lhs; simp only [go_sem]) <;> rfl; rfl) | ((first | apply W2_scf | apply W2_f2); (conv => lhs; simp only [go_sem]) <;> rfl; rfl) | refine W2_ret ?_ | refine W2_exit ?_ | refine W2_skip ?_ | refine W2_seq ?_ | refine W2_block ?_)
  (((first | with_reducible apply W2_sc | with_reducible apply W2_cond); ((conv => lhs; simp only [go_sem]) <;> with_reducible rfl)) <;> intro hx <;> (try rw [hx]) <;> simp only [Bool.or_eq_true, Bool.and_eq_true, decide_eq_true_eq, Bool.or_eq_false_iff, Bool.and_eq_false_iff, decide_eq_false_iff_not, Bool.not_eq_true', Bool.not_eq_false', bne_iff_ne, beq_iff_eq, not_or, not_and, Decidable.not_not, ne_eq, gt_iff_lt, ge_iff_le, Int.not_lt, Int.not_le] at hx)
  · have hl1 : ((List.range i).map ringN).length = i := by simp
    have hl2 : ((List.range i).map (ringE N)).length = i := by simp
    have r1 : (List.range (i + 1)).map ringN = (List.range i).map ringN ++ [ringN i] := by rw [List.range_succ, List.map_append]; rfl
    have r2 : (List.range (i + 1)).map (ringE N) = (List.range i).map (ringE N) ++ [ringE N i] := by rw [List.range_succ, List.map_append]; rfl
    generalize (List.range i).map ringN = LN at hl1 r1
    generalize (List.range i).map (ringE N) = LE at hl2 r2
    have t1 : LN.take i = LN := List.take_of_length_le (by omega)
    have t2 : LE.take i = LE := List.take_of_length_le (by omega)
    have m1 : (i + 1) * 32 ≤ room := by simp only [room]; omega
    have m2 : (i + 1) * 16 ≤ room := by simp only [room]; omega
    have m3 : 2 ≤ room := by simp only [room]; omega
    have w1 : IntKind.i64.wrap (97 + (i : Int)) = 97 + i := wi _ (by omega) (by omega)
    have w2 : IntKind.u8.wrap (97 + (i : Int)) = 97 + i := by rw [IntKind.wrap_u8]; omega
    have w3 := wS (show i < 9223372036854775807 by omega)
    have w4 : (((i + 1 : Nat) : Int)).tmod (N : Int) = (((i + 1) % N : Nat) : Int) := rfl
    have hNz : ¬((N : Int) = 0) := by omega
    have w5 : IntKind.i64.wrap (((i + 1) % N : Nat) : Int) = (((i + 1) % N : Nat) : Int) := wi _ (by omega) (by have := Nat.mod_lt (i + 1) (show 0 < N by omega); omega)
    have hby : bytes2 [[PV.i .u8 (97 + (i : Int))]] = some [UInt8.ofNat (97 + i)] := by
      have : (97 + (i : Int)).toNat = 97 + i := by omega
      simp [bytes2, this]
    (repeat' with_reducible first | refine thn2_nrm ?_ | refine thn2_ret ?_ | refine thn2_ex ?_ | refine blk2_nrm ?_ | refine blk2_ret ?_ | refine blk2_at ?_ | (refine blk2_ex ?_ ?_; decide) | refine W2_sas ?_ | refine W2_ss ?_ | refine W2_sret ?_ | refine W2_sexit ?_ | ((first | apply W2_sra | apply W2_srda | apply W2_runa | apply W2_runda); (conv => lhs; simp only [go_sem, ibin, ishift, hl1, hl2, t1, t2, m1, m2, m3, w1, w2, w3, w4, w5, hNz, Nat.le_refl, hby]) <;> rfl) | ((first | apply W2_srS | apply W2_runS); decide +kernel; (conv => lhs; simp only [go_sem, ibin, ishift, hl1, hl2, t1, t2, m1, m2, m3, w1, w2, w3, w4, w5, hNz, Nat.le_refl, hby]) <;> rfl) | ((first | apply W2_sct | apply W2_t2); (conv => lhs; simp only [go_sem]) <;> rfl; rfl) | ((first | apply W2_scf | apply W2_f2); (conv => lhs; simp only [go_sem]) <;> rfl; rfl) | refine W2_ret ?_ | refine W2_exit ?_ | refine W2_skip ?_ | refine W2_seq ?_ | refine W2_block ?_)
    rw [show LN.map cN ++ [[PV.s [110, UInt8.ofNat (97 + i)], PV.i .i64 1, PV.i .i64 0]] = ((List.range (i + 1)).map ringN).map cN by rw [r1, List.map_append]; rfl,
      show LE.map cD ++ [[PV.i .i64 (i : Int), PV.i .i64 (((i + 1) % N : Nat) : Int)]] = ((List.range (i + 1)).map (ringE N)).map cD by rw [r2, List.map_append]; rfl]
    refine ⟨[0, 5, 7], by decide, rfl, ?_⟩
    exact ⟨N - (i + 1), _, _, by omega, ⟨i + 1, by omega, rfl, rfl⟩, rfl, (by first | rfl | ((conv => lhs; simp only [go_sem, ibin, ishift]) <;> rfl))⟩
  · have hiN : i = N := by omega
    subst hiN
    have hg := ring_good hN2
    obtain ⟨hp, hR⟩ := ring_new hN2 first
    have hk0 := Pl.new_ok hg
    have hk1 := Pl.put_ok hk0 1 0
    have hl1 : ((List.range i).map ringN).length = i := by simp
    have hl2 : ((List.range i).map (ringE i)).length = i := by simp
    have t1 : ((List.range i).map ringN).take i = (List.range i).map ringN := List.take_of_length_le (by omega)
    have t2 : ((List.range i).map (ringE i)).take i = (List.range i).map (ringE i) := List.take_of_length_le (by omega)
    (repeat' with_reducible first | refine thn2_nrm ?_ | refine thn2_ret ?_ | refine thn2_ex ?_ | refine blk2_nrm ?_ | refine blk2_ret ?_ | refine blk2_at ?_ | (refine blk2_ex ?_ ?_; decide) | refine W2_sas ?_ | refine W2_ss ?_ | refine W2_sret ?_ | refine W2_sexit ?_ | ((first | apply W2_sra | apply W2_srda | apply W2_runa | apply W2_runda); (conv => lhs; simp only [go_sem, ibin, ishift]) <;> rfl) | ((first | apply W2_srS | apply W2_runS); decide +kernel; (conv => lhs; simp only [go_sem, ibin, ishift]) <;> rfl) | ((first | apply W2_sct | apply W2_t2); (conv => lhs; simp only [go_sem]) <;> rfl; rfl) | ((first | apply W2_scf | apply W2_f2); (conv => lhs; simp only [go_sem]) <;> rfl; rfl) | refine W2_ret ?_ | refine W2_exit ?_ | refine W2_skip ?_ | refine W2_seq ?_ | refine W2_block ?_)
    (first | (((with_reducible first | apply W2_scall | apply W2_scalld | apply W2_calla | apply W2_callda | apply run2a_sound); ((conv => lhs; simp only [go_sem, ibin, ishift]) <;> with_reducible rfl))) | ((with_reducible first | apply W2_scallS | apply W2_callS); decide +kernel; ((conv => lhs; simp only [go_sem, ibin, ishift]) <;> with_reducible rfl)))
    refine CK_frz 1 rfl (args' := [.agg [.fz 3 (((List.range i).map ringN).map cN), .sl 2 2 0 i none]]) (by (conv => lhs; simp only [go_sem, ibin, ishift, hl1, t1, Nat.le_refl]) <;> with_reducible rfl) (by (conv => lhs; simp only [go_sem, ibin, ishift, hl1, t1, Nat.le_refl]) <;> with_reducible rfl) (by (conv => lhs; simp only [go_sem, ibin, ishift, hl1, t1, Nat.le_refl]) <;> with_reducible rfl) ?_
    refine CK_frz 2 rfl (args' := [.agg [.fz 3 (((List.range i).map ringN).map cN), .fz 2 (((List.range i).map (ringE i)).map cD)]]) (by (conv => lhs; simp only [go_sem, ibin, ishift, hl2, t2, Nat.le_refl]) <;> with_reducible rfl) (by (conv => lhs; simp only [go_sem, ibin, ishift, hl2, t2, Nat.le_refl]) <;> with_reducible rfl) (by (conv => lhs; simp only [go_sem, ibin, ishift, hl2, t2, Nat.le_refl]) <;> with_reducible rfl) ?_
    refine CK_pure (new_spec c.toTabP (ring i) ⟨by simp [ring]; omega, by simp [ring]; omega⟩ (fun x hx => ?_)) rfl ?_
    · simp only [ring, List.mem_map] at hx
      obtain ⟨j, _, rfl⟩ := hx
      simp [ringN]
    rintro v h' ⟨_, hh⟩
    obtain ⟨rfl, rfl⟩ := hh hg
    unfold Pl.h
    ((with_reducible first | apply WO2_finw | apply WO2_fina); ((conv => lhs; simp only [go_sem, ibin, ishift]) <;> with_reducible rfl))
    (repeat' with_reducible first | refine thn2_nrm ?_ | refine thn2_ret ?_ | refine thn2_ex ?_ | refine blk2_nrm ?_ | refine blk2_ret ?_ | refine blk2_at ?_ | (refine blk2_ex ?_ ?_; decide) | refine W2_sas ?_ | refine W2_ss ?_ | refine W2_sret ?_ | refine W2_sexit ?_ | ((first | apply W2_sra | apply W2_srda | apply W2_runa | apply W2_runda); (conv => lhs; simp only [go_sem, ibin, ishift]) <;> rfl) | ((first | apply W2_srS | apply W2_runS); decide +kernel; (conv => lhs; simp only [go_sem, ibin, ishift]) <;> rfl) | ((first | apply W2_sct | apply W2_t2); (conv => lhs; simp only [go_sem]) <;> rfl; rfl) | ((first | apply W2_scf | apply W2_f2); (conv => lhs; simp only [go_sem]) <;> rfl; rfl) | refine W2_ret ?_ | refine W2_exit ?_ | refine W2_skip ?_ | refine W2_seq ?_ | refine W2_block ?_)
    (first | (((with_reducible first | apply W2_scall | apply W2_scalld | apply W2_calla | apply W2_callda | apply run2a_sound); ((conv => lhs; simp only [go_sem, ibin, ishift]) <;> with_reducible rfl))) | ((with_reducible first | apply W2_scallS | apply W2_callS); decide +kernel; ((conv => lhs; simp only [go_sem, ibin, ishift]) <;> with_reducible rfl)))
    refine CK_call [3, 4, 5] (put_spec c.toTabP (Pl.new (ring i)) hk0.al 1 0) (by decide) (by simp) rfl rfl (by first | rfl | (simp only [go_sem, Pl.h]; done) | (simp only [go_sem, Pl.h] <;> rfl)) ?_
    rintro v h' ⟨rfl, rfl⟩
    rw [hp]
    generalize ((Pl.new (ring i)).put 1 0).1 = p1 at hR hk1
    unfold Pl.h
    ((with_reducible first | apply WO2_finw | apply WO2_fina); ((conv => lhs; simp only [go_sem, ibin, ishift]) <;> with_reducible rfl))
    (repeat' with_reducible first | refine thn2_nrm ?_ | refine thn2_ret ?_ | refine thn2_ex ?_ | refine blk2_nrm ?_ | refine blk2_ret ?_ | refine blk2_at ?_ | (refine blk2_ex ?_ ?_; decide) | refine W2_sas ?_ | refine W2_ss ?_ | refine W2_sret ?_ | refine W2_sexit ?_ | ((first | apply W2_sra | apply W2_srda | apply W2_runa | apply W2_runda); (conv => lhs; simp only [go_sem, ibin, ishift]) <;> rfl) | ((first | apply W2_srS | apply W2_runS); decide +kernel; (conv => lhs; simp only [go_sem, ibin, ishift]) <;> rfl) | ((first | apply W2_sct | apply W2_t2); (conv => lhs; simp only [go_sem]) <;> rfl; rfl) | ((first | apply W2_scf | apply W2_f2); (conv => lhs; simp only [go_sem]) <;> rfl; rfl) | refine W2_ret ?_ | refine W2_exit ?_ | refine W2_skip ?_ | refine W2_seq ?_ | refine W2_block ?_)
    refine W2.wview [3, 4, 5] (by decide) rfl (by (conv => lhs; simp only [go_sem, ibin, ishift]) <;> with_reducible rfl) (by (conv => lhs; simp only [go_sem, ibin, ishift]) <;> with_reducible rfl) ?_
    clear hl1 hl2 t1 t2 hN hS hh hg hp hk0
    generalize i = N at hN2 hR ⊢
    refine W2_loopu (fun m u g => ∃ (i : Nat) (p : Pl), i + m = S ∧ p.Ok ∧ Rg N first i p ∧ u = [(11, .i .i64 i)] ∧ g = [(0, .obj [.fz 2 (p.es.map cD), .sl 1 1 0 p.at_.length none, .sl 4 2 0 p.ds.length none, .i .i64 p.mv]), (1, .arr 1 (p.at_.map cI)), (2, .arr 4 (p.ds.map cV))]) S ⟨0, p1, by omega, hk1, hR, rfl, rfl⟩ rfl rfl ?_
    clear hk1 hR
    rintro m u g ⟨i, p, hi, hk, hR, rfl, rfl⟩
    intro e1 h1 he1 hh1; simp only [egd, supE, hgd, supH, Nat.reduceEqDiff, Nat.reduceAdd, if_true, if_false, reduceIte] at he1 hh1; subst he1; subst hh1
    have hm : i % N < N := Nat.mod_lt _ (by omega)
    have hNz : ¬((N : Int) = 0) := by omega
    (repeat' with_reducible first | refine thn2_nrm ?_ | refine thn2_ret ?_ | refine thn2_ex ?_ | refine blk2_nrm ?_ | refine blk2_ret ?_ | refine blk2_at ?_ | (refine blk2_ex ?_ ?_; decide) | refine W2_sas ?_ | refine W2_ss ?_ | refine W2_sret ?_ | refine W2_sexit ?_ | ((first | apply W2_sra | apply W2_srda | apply W2_runa | apply W2_runda); (conv => lhs; simp only [go_sem, ibin, ishift]) <;> rfl) | ((first | apply W2_srS | apply W2_runS); decide +kernel; (conv => lhs; simp only [go_sem, ibin, ishift]) <;> rfl) | ((first | apply W2_sct | apply W2_t2); (conv => lhs; simp only [go_sem]) <;> rfl; rfl) | ((first | apply W2_scf | apply W2_f2); (conv => lhs; simp only [go_sem]) <;> rfl; rfl) | refine W2_ret ?_ | refine W2_exit ?_ | refine W2_skip ?_ | refine W2_seq ?_ | refine W2_block ?_)
    (((first | with_reducible apply W2_sc | with_reducible apply W2_cond); ((conv => lhs; simp only [go_sem]) <;> with_reducible rfl)) <;> intro hx <;> (try rw [hx]) <;> simp only [Bool.or_eq_true, Bool.and_eq_true, decide_eq_true_eq, Bool.or_eq_false_iff, Bool.and_eq_false_iff, decide_eq_false_iff_not, Bool.not_eq_true', Bool.not_eq_false', bne_iff_ne, beq_iff_eq, not_or, not_and, Decidable.not_not, ne_eq, gt_iff_lt, ge_iff_le, Int.not_lt, Int.not_le] at hx)
    · obtain ⟨q, hh, hR2, hst⟩ := hR.step hN2 (by omega)
      have hm2 : (i + 1) % N < N := Nat.mod_lt _ (by omega)
      have hloc : q.loc 1 = (((i + 1) % N : Nat) : Int) := ring_loc hm2 hR2.at_
      have hkq := Pl.hear_ok hk ⟨1, ((i % N + 1 : Nat) : Int), sq first i, 1, 0⟩
      rw [hh] at hkq
      simp only at hkq
      have v1 : ((i : Int)).tmod (N : Int) = ((i % N : Nat) : Int) := rfl
      have v2 : IntKind.i64.wrap (((i % N : Nat)) : Int) = ((i % N : Nat) : Int) := wi _ (by omega) (by omega)
      have v3 := wS (show i % N < 9223372036854775807 by omega)
      have v4 : IntKind.u16.wrap (((i % N + 1 : Nat)) : Int) = ((i % N + 1 : Nat) : Int) := wu16 _ (by omega) (by omega)
      have v5 : IntKind.u16.wrap (i : Int) = i := wu16 _ (by omega) (by omega)
      have v6 : IntKind.u16.wrap (first + (i : Int)) = sq first i := rfl
      have v7 := wS (show i < 9223372036854775807 by omega)
      have v8 : (((i + 1 : Nat) : Int)).tmod (N : Int) = (((i + 1) % N : Nat) : Int) := rfl
      have v9 : IntKind.i64.wrap ((((i + 1) % N : Nat)) : Int) = (((i + 1) % N : Nat) : Int) := wi _ (by omega) (by omega)
      have v10 : IntKind.u16.wrap (N : Int) = N := wu16 _ (by omega) (by omega)
      have v11 : IntKind.u16.wrap (sq first i - (N : Int)) = (sq first i - N) % 65536 := rfl
      have hsq : 0 ≤ sq first i ∧ sq first i < 65536 := by simp only [sq]; omega
      generalize sq first i = SQ at hh hst v6 v11 hsq
      (repeat' with_reducible first | refine thn2_nrm ?_ | refine thn2_ret ?_ | refine thn2_ex ?_ | refine blk2_nrm ?_ | refine blk2_ret ?_ | refine blk2_at ?_ | (refine blk2_ex ?_ ?_; decide) | refine W2_sas ?_ | refine W2_ss ?_ | refine W2_sret ?_ | refine W2_sexit ?_ | ((first | apply W2_sra | apply W2_srda | apply W2_runa | apply W2_runda); (conv => lhs; simp only [go_sem, ibin, ishift, v1, v2, v3, v4, v5, v6, hNz]) <;> rfl) | ((first | apply W2_srS | apply W2_runS); decide +kernel; (conv => lhs; simp only [go_sem, ibin, ishift, v1, v2, v3, v4, v5, v6, hNz]) <;> rfl) | ((first | apply W2_sct | apply W2_t2); (conv => lhs; simp only [go_sem]) <;> rfl; rfl) | ((first | apply W2_scf | apply W2_f2); (conv => lhs; simp only [go_sem]) <;> rfl; rfl) | refine W2_ret ?_ | refine W2_exit ?_ | refine W2_skip ?_ | refine W2_seq ?_ | refine W2_block ?_)
      (first | (((with_reducible first | apply W2_scall | apply W2_scalld | apply W2_calla | apply W2_callda | apply run2a_sound); ((conv => lhs; simp only [go_sem, ibin, ishift, v1, v2, v3, v4, v5, v6, hNz]) <;> with_reducible rfl))) | ((with_reducible first | apply W2_scallS | apply W2_callS); decide +kernel; ((conv => lhs; simp only [go_sem, ibin, ishift, v1, v2, v3, v4, v5, v6, hNz]) <;> with_reducible rfl)))
      refine CK_call [0, 1, 2] (hear_spec c.toTabP p hk ⟨1, ((i % N + 1 : Nat) : Int), SQ, 1, 0⟩ (Te.mk_ok (by decide) ⟨by omega, by omega⟩ hsq (by decide) (by decide))) (by decide) (by simp) rfl rfl (by first | rfl | (simp only [go_sem, Pl.h, Te.v]; done) | (simp only [go_sem, Pl.h, Te.v] <;> rfl)) ?_
      rintro v h' ⟨rfl, rfl⟩
      rw [hh]
      unfold Pl.h Te.v
      have z1 : decide ((((i % N + 1 : Nat)) : Int) = ((i % N + 1 : Nat) : Int)) = true := by simp
      have z2 : decide (SQ = SQ) = true := by simp
      have z3 : decide (((((i + 1) % N : Nat)) : Int) = (((i + 1) % N : Nat) : Int)) = true := by simp
      ((with_reducible first | apply WO2_finw | apply WO2_fina); ((conv => lhs; simp only [go_sem, ibin, ishift]) <;> with_reducible rfl))
      (repeat' with_reducible first | refine thn2_nrm ?_ | refine thn2_ret ?_ | refine thn2_ex ?_ | refine blk2_nrm ?_ | refine blk2_ret ?_ | refine blk2_at ?_ | (refine blk2_ex ?_ ?_; decide) | refine W2_sas ?_ | refine W2_ss ?_ | refine W2_sret ?_ | refine W2_sexit ?_ | ((first | apply W2_sra | apply W2_srda | apply W2_runa | apply W2_runda); (conv => lhs; simp only [go_sem, ibin, ishift]) <;> rfl) | ((first | apply W2_srS | apply W2_runS); decide +kernel; (conv => lhs; simp only [go_sem, ibin, ishift]) <;> rfl) | ((first | apply W2_sct | apply W2_t2); (conv => lhs; simp only [go_sem]) <;> rfl; rfl) | ((first | apply W2_scf | apply W2_f2); (conv => lhs; simp only [go_sem]) <;> rfl; rfl) | refine W2_ret ?_ | refine W2_exit ?_ | refine W2_skip ?_ | refine W2_seq ?_ | refine W2_block ?_)
      (first | (((with_reducible first | apply W2_scall | apply W2_scalld | apply W2_calla | apply W2_callda | apply run2a_sound); ((conv => lhs; simp only [go_sem, ibin, ishift, z1, z2]) <;> with_reducible rfl))) | ((with_reducible first | apply W2_scallS | apply W2_callS); decide +kernel; ((conv => lhs; simp only [go_sem, ibin, ishift, z1, z2]) <;> with_reducible rfl)))
      refine CK_call [0, 1, 2] (where_spec c.toTabP q hkq.al 1) (by decide) (by simp) rfl rfl (by first | rfl | (simp only [go_sem, Pl.h]; done) | (simp only [go_sem, Pl.h] <;> rfl)) ?_
      rintro v h' ⟨rfl, rfl⟩
      rw [hloc]
      unfold Pl.h
      ((with_reducible first | apply WO2_finw | apply WO2_fina); ((conv => lhs; simp only [go_sem, ibin, ishift, v7, v8, v9, z3, hNz]) <;> with_reducible rfl))
      (repeat' with_reducible first | refine thn2_nrm ?_ | refine thn2_ret ?_ | refine thn2_ex ?_ | refine blk2_nrm ?_ | refine blk2_ret ?_ | refine blk2_at ?_ | (refine blk2_ex ?_ ?_; decide) | refine W2_sas ?_ | refine W2_ss ?_ | refine W2_sret ?_ | refine W2_sexit ?_ | ((first | apply W2_sra | apply W2_srda | apply W2_runa | apply W2_runda); (conv => lhs; simp only [go_sem, ibin, ishift, v7, v8, v9, z3, hNz]) <;> rfl) | ((first | apply W2_srS | apply W2_runS); decide +kernel; (conv => lhs; simp only [go_sem, ibin, ishift, v7, v8, v9, z3, hNz]) <;> rfl) | ((first | apply W2_sct | apply W2_t2); (conv => lhs; simp only [go_sem]) <;> rfl; rfl) | ((first | apply W2_scf | apply W2_f2); (conv => lhs; simp only [go_sem]) <;> rfl; rfl) | refine W2_ret ?_ | refine W2_exit ?_ | refine W2_skip ?_ | refine W2_seq ?_ | refine W2_block ?_)
      by_cases hin : N ≤ i
      · have z4 : decide ((i : Int) ≥ (N : Int)) = true := decide_eq_true (by omega)
        rw [z4]
        (repeat' with_reducible first | refine thn2_nrm ?_ | refine thn2_ret ?_ | refine thn2_ex ?_ | refine blk2_nrm ?_ | refine blk2_ret ?_ | refine blk2_at ?_ | (refine blk2_ex ?_ ?_; decide) | refine W2_sas ?_ | refine W2_ss ?_ | refine W2_sret ?_ | refine W2_sexit ?_ | ((first | apply W2_sra | apply W2_srda | apply W2_runa | apply W2_runda); (conv => lhs; simp only [go_sem, ibin, ishift]) <;> rfl) | ((first | apply W2_srS | apply W2_runS); decide +kernel; (conv => lhs; simp only [go_sem, ibin, ishift]) <;> rfl) | ((first | apply W2_sct | apply W2_t2); (conv => lhs; simp only [go_sem]) <;> rfl; rfl) | ((first | apply W2_scf | apply W2_f2); (conv => lhs; simp only [go_sem]) <;> rfl; rfl) | refine W2_ret ?_ | refine W2_exit ?_ | refine W2_skip ?_ | refine W2_seq ?_ | refine W2_block ?_)
        (first | (((with_reducible first | apply W2_scall | apply W2_scalld | apply W2_calla | apply W2_callda | apply run2a_sound); ((conv => lhs; simp only [go_sem, ibin, ishift, v10, v11]) <;> with_reducible rfl))) | ((with_reducible first | apply W2_scallS | apply W2_callS); decide +kernel; ((conv => lhs; simp only [go_sem, ibin, ishift, v10, v11]) <;> with_reducible rfl)))
        refine CK_call [0, 1, 2] (hear_spec c.toTabP q hkq ⟨1, ((i % N + 1 : Nat) : Int), (SQ - N) % 65536, 1, 0⟩ (Te.mk_ok (by decide) ⟨by omega, by omega⟩ ⟨by omega, by omega⟩ (by decide) (by decide))) (by decide) (by simp) rfl rfl (by first | rfl | (simp only [go_sem, Pl.h, Te.v]; done) | (simp only [go_sem, Pl.h, Te.v] <;> rfl)) ?_
        rintro v h' ⟨rfl, rfl⟩
        rw [hst hin]
        unfold Pl.h Te.v Te.nil
        ((with_reducible first | apply WO2_finw | apply WO2_fina); ((conv => lhs; simp only [go_sem, ibin, ishift]) <;> with_reducible rfl))
        (repeat' with_reducible first | refine thn2_nrm ?_ | refine thn2_ret ?_ | refine thn2_ex ?_ | refine blk2_nrm ?_ | refine blk2_ret ?_ | refine blk2_at ?_ | (refine blk2_ex ?_ ?_; decide) | refine W2_sas ?_ | refine W2_ss ?_ | refine W2_sret ?_ | refine W2_sexit ?_ | ((first | apply W2_sra | apply W2_srda | apply W2_runa | apply W2_runda); (conv => lhs; simp only [go_sem, ibin, ishift, v7]) <;> rfl) | ((first | apply W2_srS | apply W2_runS); decide +kernel; (conv => lhs; simp only [go_sem, ibin, ishift, v7]) <;> rfl) | ((first | apply W2_sct | apply W2_t2); (conv => lhs; simp only [go_sem]) <;> rfl; rfl) | ((first | apply W2_scf | apply W2_f2); (conv => lhs; simp only [go_sem]) <;> rfl; rfl) | refine W2_ret ?_ | refine W2_exit ?_ | refine W2_skip ?_ | refine W2_seq ?_ | refine W2_block ?_)
        refine ⟨[0, 1, 2], by decide, rfl, ?_⟩
        exact ⟨S - (i + 1), _, _, by omega, ⟨i + 1, q, by omega, hkq, hR2, rfl, rfl⟩, rfl, (by first | rfl | ((conv => lhs; simp only [go_sem, ibin, ishift]) <;> rfl))⟩
      · have z4 : decide ((i : Int) ≥ (N : Int)) = false := decide_eq_false (by omega)
        rw [z4]
        (repeat' with_reducible first | refine thn2_nrm ?_ | refine thn2_ret ?_ | refine thn2_ex ?_ | refine blk2_nrm ?_ | refine blk2_ret ?_ | refine blk2_at ?_ | (refine blk2_ex ?_ ?_; decide) | refine W2_sas ?_ | refine W2_ss ?_ | refine W2_sret ?_ | refine W2_sexit ?_ | ((first | apply W2_sra | apply W2_srda | apply W2_runa | apply W2_runda); (conv => lhs; simp only [go_sem, ibin, ishift, v7]) <;> rfl) | ((first | apply W2_srS | apply W2_runS); decide +kernel; (conv => lhs; simp only [go_sem, ibin, ishift, v7]) <;> rfl) | ((first | apply W2_sct | apply W2_t2); (conv => lhs; simp only [go_sem]) <;> rfl; rfl) | ((first | apply W2_scf | apply W2_f2); (conv => lhs; simp only [go_sem]) <;> rfl; rfl) | refine W2_ret ?_ | refine W2_exit ?_ | refine W2_skip ?_ | refine W2_seq ?_ | refine W2_block ?_)
        refine ⟨[0, 1, 2], by decide, rfl, ?_⟩
        exact ⟨S - (i + 1), _, _, by omega, ⟨i + 1, q, by omega, hkq, hR2, rfl, rfl⟩, rfl, (by first | rfl | ((conv => lhs; simp only [go_sem, ibin, ishift]) <;> rfl))⟩
    · have hiS : i = S := by omega
      subst hiS
      have hloc : p.loc 1 = ((i % N : Nat) : Int) := ring_loc hm hR.at_
      have v1 : ((i : Int)).tmod (N : Int) = ((i % N : Nat) : Int) := rfl
      have v2 : IntKind.i64.wrap (((i % N : Nat)) : Int) = ((i % N : Nat) : Int) := wi _ (by omega) (by omega)
      have z1 : decide ((i : Int) = (i : Int)) = true := by simp
      have z2 : decide ((((i % N : Nat)) : Int) = ((i % N : Nat) : Int)) = true := by simp
      (repeat' with_reducible first | refine thn2_nrm ?_ | refine thn2_ret ?_ | refine thn2_ex ?_ | refine blk2_nrm ?_ | refine blk2_ret ?_ | refine blk2_at ?_ | (refine blk2_ex ?_ ?_; decide) | refine W2_sas ?_ | refine W2_ss ?_ | refine W2_sret ?_ | refine W2_sexit ?_ | ((first | apply W2_sra | apply W2_srda | apply W2_runa | apply W2_runda); (conv => lhs; simp only [go_sem, ibin, ishift]) <;> rfl) | ((first | apply W2_srS | apply W2_runS); decide +kernel; (conv => lhs; simp only [go_sem, ibin, ishift]) <;> rfl) | ((first | apply W2_sct | apply W2_t2); (conv => lhs; simp only [go_sem]) <;> rfl; rfl) | ((first | apply W2_scf | apply W2_f2); (conv => lhs; simp only [go_sem]) <;> rfl; rfl) | refine W2_ret ?_ | refine W2_exit ?_ | refine W2_skip ?_ | refine W2_seq ?_ | refine W2_block ?_)
      (first | (((with_reducible first | apply W2_scall | apply W2_scalld | apply W2_calla | apply W2_callda | apply run2a_sound); ((conv => lhs; simp only [go_sem, ibin, ishift]) <;> with_reducible rfl))) | ((with_reducible first | apply W2_scallS | apply W2_callS); decide +kernel; ((conv => lhs; simp only [go_sem, ibin, ishift]) <;> with_reducible rfl)))
      refine CK_call [0, 1, 2] (moves_spec c.toTabP p) (by decide) (by simp) rfl rfl (by first | rfl | (simp only [go_sem, Pl.h]; done) | (simp only [go_sem, Pl.h] <;> rfl)) ?_
      rintro v h' ⟨rfl, rfl⟩
      rw [hR.mv]
      unfold Pl.h
      (first | (((with_reducible first | apply W2_scall | apply W2_scalld | apply W2_calla | apply W2_callda | apply run2a_sound); ((conv => lhs; simp only [go_sem, ibin, ishift, z1]) <;> with_reducible rfl))) | ((with_reducible first | apply W2_scallS | apply W2_callS); decide +kernel; ((conv => lhs; simp only [go_sem, ibin, ishift, z1]) <;> with_reducible rfl)))
      refine CK_call [0, 1, 2] (where_spec c.toTabP p hk.al 1) (by decide) (by simp) rfl rfl (by first | rfl | (simp only [go_sem, Pl.h, hR.mv]; done) | (simp only [go_sem, Pl.h, hR.mv] <;> rfl)) ?_
      rintro v h' ⟨rfl, rfl⟩
      rw [hloc]
      unfold Pl.h
      ((with_reducible first | apply WO2_finw | apply WO2_fina); ((conv => lhs; simp only [go_sem, ibin, ishift, v1, v2, z1, z2, hNz]) <;> with_reducible rfl))
      (repeat' with_reducible first | refine thn2_nrm ?_ | refine thn2_ret ?_ | refine thn2_ex ?_ | refine blk2_nrm ?_ | refine blk2_ret ?_ | refine blk2_at ?_ | (refine blk2_ex ?_ ?_; decide) | refine W2_sas ?_ | refine W2_ss ?_ | refine W2_sret ?_ | refine W2_sexit ?_ | ((first | apply W2_sra | apply W2_srda | apply W2_runa | apply W2_runda); (conv => lhs; simp only [go_sem, ibin, ishift]) <;> rfl) | ((first | apply W2_srS | apply W2_runS); decide +kernel; (conv => lhs; simp only [go_sem, ibin, ishift]) <;> rfl) | ((first | apply W2_sct | apply W2_t2); (conv => lhs; simp only [go_sem]) <;> rfl; rfl) | ((first | apply W2_scf | apply W2_f2); (conv => lhs; simp only [go_sem]) <;> rfl; rfl) | refine W2_ret ?_ | refine W2_exit ?_ | refine W2_skip ?_ | refine W2_seq ?_ | refine W2_block ?_)
      refine ⟨by first | exact .inr rfl | exact .inl rfl, _, _, (by (conv => lhs; simp only [go_sem, ibin, ishift]) <;> with_reducible rfl), (by (conv => lhs; simp only [go_sem, ibin, ishift]) <;> with_reducible rfl), ?_⟩
      refine ⟨[], by decide, rfl, ?_⟩
      rfl
end Go.Proofs.Ytpblhjaghkkdhaa.Ab
