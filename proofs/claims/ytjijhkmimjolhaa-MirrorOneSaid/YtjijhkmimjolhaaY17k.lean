/- Chapter 17: MirrorOne: the walk. -/
import Derived.Test.YtjijhkmimjolhaaY17j
namespace Go.Proofs.Ytjijhkmimjolhaa.Ab
open Go
set_option linter.unusedVariables false
set_option linter.unusedSimpArgs false
variable {T : AT}
theorem replicate_cI : ∀ n : Nat, List.replicate n [PV.i .i64 0] = (List.replicate n (0 : Int)).map cI
  | 0 => rfl
  | n + 1 => by rw [List.replicate_succ, List.replicate_succ, List.map_cons, replicate_cI n]; rfl
set_option maxHeartbeats 4000000 in
theorem mirrorOne_law (c : TabW T) (hT : T i_stillagelaw17_MirrorOne = some (.fn c_stillagelaw17_MirrorOne)) (l : Lay) (hs : ∀ x ∈ l.ns, x.name.length ≤ 9223372036854775807) (s : List Nt) :
    Ret2 T 0 i_stillagelaw17_MirrorOne [l.v, .fz 4 (s.map cNt)] [] (fun v h' => v = .b true) := by
  refine Ret2_fnv hT rfl rfl ?_
  have hv : l.v = .agg [.fz 3 (l.ns.map cN), .fz 2 (l.es.map cD)] := rfl
  rw [hv]
  (repeat' with_reducible first | refine thn2_nrm ?_ | refine thn2_ret ?_ | refine thn2_ex ?_ | refine blk2_nrm ?_ | refine blk2_ret ?_ | refine blk2_at ?_ | (refine blk2_ex ?_ ?_; decide) | refine W2_sas ?_ | refine W2_ss ?_ | refine W2_sret ?_ | refine W2_sexit ?_ | ((first | apply W2_sra | apply W2_srda | apply W2_runa | apply W2_runda); (conv => lhs; simp only [go_sem, ibin, ishift]) <;> rfl) | ((first | apply W2_srS | apply W2_runS); decide +kernel; (conv => lhs; simp only [go_sem, ibin, ishift]) <;> rfl) | ((first | apply W2_sct | apply W2_t2); (conv => lhs; simp only [go_sem]) <;> rfl; rfl) | ((first | apply W2_scf | apply W2_f2); (conv => lhs; simp only [go_sem]) <;> rfl; rfl) | refine W2_ret ?_ | refine W2_exit ?_ | refine W2_skip ?_ | refine W2_seq ?_ | refine W2_block ?_)
  (first | (((with_reducible first | apply W2_scall | apply W2_scalld | apply W2_calla | apply W2_callda | apply run2a_sound); ((conv => lhs; simp only [go_sem, ibin, ishift]) <;> with_reducible rfl))) | ((with_reducible first | apply W2_scallS | apply W2_callS); decide +kernel; ((conv => lhs; simp only [go_sem, ibin, ishift]) <;> with_reducible rfl)))
  refine CK_pure (awake_spec c) rfl ?_
  rintro v h' ⟨rfl, rfl⟩
  (first | (((with_reducible first | apply W2_scall | apply W2_scalld | apply W2_calla | apply W2_callda | apply run2a_sound); ((conv => lhs; simp only [go_sem, ibin, ishift]) <;> with_reducible rfl))) | ((with_reducible first | apply W2_scallS | apply W2_callS); decide +kernel; ((conv => lhs; simp only [go_sem, ibin, ishift]) <;> with_reducible rfl)))
  refine CK_pure (few_spec c l) (by first | rfl | (simp only [go_sem, Lay.v]; done) | (simp only [go_sem, Lay.v] <;> rfl)) ?_
  rintro v h' ⟨rfl, rfl⟩
  by_cases hf : l.ns.length ≤ 60 ∧ l.es.length ≤ 200
  rotate_left
  · rw [decide_eq_false hf]
    ((with_reducible first | apply WO2_finw | apply WO2_fina); ((conv => lhs; simp only [go_sem, ibin, ishift]) <;> with_reducible rfl))
    (repeat' with_reducible first | refine thn2_nrm ?_ | refine thn2_ret ?_ | refine thn2_ex ?_ | refine blk2_nrm ?_ | refine blk2_ret ?_ | refine blk2_at ?_ | (refine blk2_ex ?_ ?_; decide) | refine W2_sas ?_ | refine W2_ss ?_ | refine W2_sret ?_ | refine W2_sexit ?_ | ((first | apply W2_sra | apply W2_srda | apply W2_runa | apply W2_runda); (conv => lhs; simp only [go_sem, ibin, ishift]) <;> rfl) | ((first | apply W2_srS | apply W2_runS); decide +kernel; (conv => lhs; simp only [go_sem, ibin, ishift]) <;> rfl) | ((first | apply W2_sct | apply W2_t2); (conv => lhs; simp only [go_sem]) <;> rfl; rfl) | ((first | apply W2_scf | apply W2_f2); (conv => lhs; simp only [go_sem]) <;> rfl; rfl) | refine W2_ret ?_ | refine W2_exit ?_ | refine W2_skip ?_ | refine W2_seq ?_ | refine W2_block ?_)
    (first | (((with_reducible first | apply W2_scall | apply W2_scalld | apply W2_calla | apply W2_callda | apply run2a_sound); ((conv => lhs; simp only [go_sem, ibin, ishift]) <;> with_reducible rfl))) | ((with_reducible first | apply W2_scallS | apply W2_callS); decide +kernel; ((conv => lhs; simp only [go_sem, ibin, ishift]) <;> with_reducible rfl)))
    refine CK_pure (awake_spec c) rfl ?_
    rintro v h' ⟨rfl, rfl⟩
    ((with_reducible first | apply WO2_finw | apply WO2_fina); ((conv => lhs; simp only [go_sem, ibin, ishift]) <;> with_reducible rfl))
    (repeat' with_reducible first | refine thn2_nrm ?_ | refine thn2_ret ?_ | refine thn2_ex ?_ | refine blk2_nrm ?_ | refine blk2_ret ?_ | refine blk2_at ?_ | (refine blk2_ex ?_ ?_; decide) | refine W2_sas ?_ | refine W2_ss ?_ | refine W2_sret ?_ | refine W2_sexit ?_ | ((first | apply W2_sra | apply W2_srda | apply W2_runa | apply W2_runda); (conv => lhs; simp only [go_sem, ibin, ishift]) <;> rfl) | ((first | apply W2_srS | apply W2_runS); decide +kernel; (conv => lhs; simp only [go_sem, ibin, ishift]) <;> rfl) | ((first | apply W2_sct | apply W2_t2); (conv => lhs; simp only [go_sem]) <;> rfl; rfl) | ((first | apply W2_scf | apply W2_f2); (conv => lhs; simp only [go_sem]) <;> rfl; rfl) | refine W2_ret ?_ | refine W2_exit ?_ | refine W2_skip ?_ | refine W2_seq ?_ | refine W2_block ?_)
    refine ⟨by first | exact .inr rfl | exact .inl rfl, _, _, (by (conv => lhs; simp only [go_sem, ibin, ishift]) <;> with_reducible rfl), (by (conv => lhs; simp only [go_sem, ibin, ishift]) <;> with_reducible rfl), ?_⟩
    refine ⟨[], by decide, rfl, ?_⟩
    rfl
  rw [decide_eq_true hf]
  ((with_reducible first | apply WO2_finw | apply WO2_fina); ((conv => lhs; simp only [go_sem, ibin, ishift]) <;> with_reducible rfl))
  (repeat' with_reducible first | refine thn2_nrm ?_ | refine thn2_ret ?_ | refine thn2_ex ?_ | refine blk2_nrm ?_ | refine blk2_ret ?_ | refine blk2_at ?_ | (refine blk2_ex ?_ ?_; decide) | refine W2_sas ?_ | refine W2_ss ?_ | refine W2_sret ?_ | refine W2_sexit ?_ | ((first | apply W2_sra | apply W2_srda | apply W2_runa | apply W2_runda); (conv => lhs; simp only [go_sem, ibin, ishift]) <;> rfl) | ((first | apply W2_srS | apply W2_runS); decide +kernel; (conv => lhs; simp only [go_sem, ibin, ishift]) <;> rfl) | ((first | apply W2_sct | apply W2_t2); (conv => lhs; simp only [go_sem]) <;> rfl; rfl) | ((first | apply W2_scf | apply W2_f2); (conv => lhs; simp only [go_sem]) <;> rfl; rfl) | refine W2_ret ?_ | refine W2_exit ?_ | refine W2_skip ?_ | refine W2_seq ?_ | refine W2_block ?_)
  (first | (((with_reducible first | apply W2_scall | apply W2_scalld | apply W2_calla | apply W2_callda | apply run2a_sound); ((conv => lhs; simp only [go_sem, ibin, ishift]) <;> with_reducible rfl))) | ((with_reducible first | apply W2_scallS | apply W2_callS); decide +kernel; ((conv => lhs; simp only [go_sem, ibin, ishift]) <;> with_reducible rfl)))
  refine CK_pure (new_spec c.toTabM l ⟨by omega, by omega⟩ hs) (by first | rfl | (simp only [go_sem, Lay.v]; done) | (simp only [go_sem, Lay.v] <;> rfl)) ?_
  rintro v h' ⟨hh0, hh1⟩
  cases hg : l.good with
  | false =>
    obtain ⟨rfl, rfl⟩ := hh0 hg
    ((with_reducible first | apply WO2_finw | apply WO2_fina); ((conv => lhs; simp only [go_sem, ibin, ishift]) <;> with_reducible rfl))
    (repeat' with_reducible first | refine thn2_nrm ?_ | refine thn2_ret ?_ | refine thn2_ex ?_ | refine blk2_nrm ?_ | refine blk2_ret ?_ | refine blk2_at ?_ | (refine blk2_ex ?_ ?_; decide) | refine W2_sas ?_ | refine W2_ss ?_ | refine W2_sret ?_ | refine W2_sexit ?_ | ((first | apply W2_sra | apply W2_srda | apply W2_runa | apply W2_runda); (conv => lhs; simp only [go_sem, ibin, ishift]) <;> rfl) | ((first | apply W2_srS | apply W2_runS); decide +kernel; (conv => lhs; simp only [go_sem, ibin, ishift]) <;> rfl) | ((first | apply W2_sct | apply W2_t2); (conv => lhs; simp only [go_sem]) <;> rfl; rfl) | ((first | apply W2_scf | apply W2_f2); (conv => lhs; simp only [go_sem]) <;> rfl; rfl) | refine W2_ret ?_ | refine W2_exit ?_ | refine W2_skip ?_ | refine W2_seq ?_ | refine W2_block ?_)
    refine ⟨by first | exact .inr rfl | exact .inl rfl, _, _, (by (conv => lhs; simp only [go_sem, ibin, ishift]) <;> with_reducible rfl), (by (conv => lhs; simp only [go_sem, ibin, ishift]) <;> with_reducible rfl), ?_⟩
    refine ⟨[], by decide, rfl, ?_⟩
    rfl
  | true =>
    obtain ⟨rfl, rfl⟩ := hh1 hg
    have hk0 := Mi.new_ok hg
    have he0 : (Mi.new l).es = l.es := rfl
    have hl0 : (Mi.new l).at_.length = l.ns.length := by simp [Mi.new]
    have hd0 : ∀ (j : Nat) (d : Md), (Mi.new l).ds[j]? = some d → d = ⟨0, 0, false, false⟩ := fun j d h => (by
      have := List.mem_of_getElem? h
      simp only [Mi.new] at this
      exact (List.mem_replicate.1 this).2)
    have hw0 : ∀ (j : Nat) (v : Int), (Mi.new l).w[j]? = some v → v = 0 := fun j d h => (by
      have := List.mem_of_getElem? h
      simp only [Mi.new] at this
      exact (List.mem_replicate.1 this).2)
    have hz0 : ∀ x ∈ (Mi.new l).at_, x = 0 := fun x hx => (by
      simp only [Mi.new] at hx
      exact (List.mem_replicate.1 hx).2)
    generalize Mi.new l = p0 at hk0 he0 hl0 hd0 hw0 hz0
    unfold Mi.h
    ((with_reducible first | apply WO2_finw | apply WO2_fina); ((conv => lhs; simp only [go_sem, ibin, ishift]) <;> with_reducible rfl))
    (repeat' with_reducible first | refine thn2_nrm ?_ | refine thn2_ret ?_ | refine thn2_ex ?_ | refine blk2_nrm ?_ | refine blk2_ret ?_ | refine blk2_at ?_ | (refine blk2_ex ?_ ?_; decide) | refine W2_sas ?_ | refine W2_ss ?_ | refine W2_sret ?_ | refine W2_sexit ?_ | ((first | apply W2_sra | apply W2_srda | apply W2_runa | apply W2_runda); (conv => lhs; simp only [go_sem, ibin, ishift]) <;> rfl) | ((first | apply W2_srS | apply W2_runS); decide +kernel; (conv => lhs; simp only [go_sem, ibin, ishift]) <;> rfl) | ((first | apply W2_sct | apply W2_t2); (conv => lhs; simp only [go_sem]) <;> rfl; rfl) | ((first | apply W2_scf | apply W2_f2); (conv => lhs; simp only [go_sem]) <;> rfl; rfl) | refine W2_ret ?_ | refine W2_exit ?_ | refine W2_skip ?_ | refine W2_seq ?_ | refine W2_block ?_)
    have hz := good_sz hg
    have hF0 : One l p0 := One.new hk0 he0 hl0 hd0 hw0 hz0
    have hP0 : PutOk p0 (List.replicate 31 false) := ⟨by simp, fun t v h1 h2 => by
      have h3 := (List.getElem?_eq_some_iff.1 h2).1
      have := hk0.wl
      rw [hw0 t v h2, List.getElem?_replicate, if_pos (by omega)]; rfl⟩
    refine W2_loopu (fun mm u g => ∃ (i : Nat) (m : Mi) (p : List Bool), i + mm = 120 ∧ One l m ∧ PutOk m p ∧ u = [(8, .i .i64 i)] ∧ g = [(1, .obj (.fz 2 (m.es.map cD) :: ((m.w.map fun n => SV.p (PV.i .i64 n)) ++ [.sl 1 2 0 m.at_.length none, .sl 4 3 0 m.ds.length none]))), (2, .arr 1 (m.at_.map cI)), (3, .arr 4 (m.ds.map cMd)), (4, .obj (p.map fun b => SV.p (PV.b b)))]) 120 ⟨0, p0, _, by omega, hF0, hP0, rfl, rfl⟩ rfl rfl ?_
    rintro mm u g ⟨i, m, p, hi, hF, hP, rfl, rfl⟩
    intro e1 h1 he1 hh1; simp only [egd, supE, hgd, supH, Nat.reduceEqDiff, Nat.reduceAdd, if_true, if_false, reduceIte] at he1 hh1; subst he1; subst hh1
    by_cases hil : i < s.length ∧ i < 120
    rotate_left
    · have hdec : (decide (i < s.length) && decide ((i : Int) < 120)) = false := by
        by_cases h : i < s.length
        · rw [decide_eq_false (show ¬((i : Int) < 120) by omega)]; simp
        · rw [decide_eq_false h]; rfl
      ((repeat' with_reducible first | refine thn2_nrm ?_ | refine thn2_ret ?_ | refine thn2_ex ?_ | refine blk2_nrm ?_ | refine blk2_ret ?_ | refine blk2_at ?_ | (refine blk2_ex ?_ ?_; decide) | refine W2_sas ?_ | refine W2_ss ?_ | refine W2_sret ?_ | refine W2_sexit ?_ | refine W2_skip ?_ | ((first | apply W2_sct | apply W2_t2); (conv => lhs; simp only [go_sem]) <;> rfl; rfl) | ((first | apply W2_scf | apply W2_f2); (conv => lhs; simp only [go_sem]) <;> rfl; rfl) | refine W2_block ?_ | refine W2_seq ?_ | refine W2_exit ?_); (first | ((with_reducible first | apply W2_sra | apply W2_srda | apply W2_runa | apply W2_runda); ((conv => lhs; simp only [go_sem, ibin, ishift]) <;> with_reducible rfl)) | ((with_reducible first | apply W2_srS | apply W2_runS); decide +kernel; ((conv => lhs; simp only [go_sem, ibin, ishift]) <;> with_reducible rfl))))
      rw [hdec]
      (repeat' with_reducible first | refine thn2_nrm ?_ | refine thn2_ret ?_ | refine thn2_ex ?_ | refine blk2_nrm ?_ | refine blk2_ret ?_ | refine blk2_at ?_ | (refine blk2_ex ?_ ?_; decide) | refine W2_sas ?_ | refine W2_ss ?_ | refine W2_sret ?_ | refine W2_sexit ?_ | ((first | apply W2_sra | apply W2_srda | apply W2_runa | apply W2_runda); (conv => lhs; simp only [go_sem, ibin, ishift]) <;> rfl) | ((first | apply W2_srS | apply W2_runS); decide +kernel; (conv => lhs; simp only [go_sem, ibin, ishift]) <;> rfl) | ((first | apply W2_sct | apply W2_t2); (conv => lhs; simp only [go_sem]) <;> rfl; rfl) | ((first | apply W2_scf | apply W2_f2); (conv => lhs; simp only [go_sem]) <;> rfl; rfl) | refine W2_ret ?_ | refine W2_exit ?_ | refine W2_skip ?_ | refine W2_seq ?_ | refine W2_block ?_)
      refine ⟨by first | exact .inr rfl | exact .inl rfl, _, _, (by (conv => lhs; simp only [go_sem, ibin, ishift]) <;> with_reducible rfl), (by (conv => lhs; simp only [go_sem, ibin, ishift]) <;> with_reducible rfl), ?_⟩
      refine ⟨[], by decide, rfl, ?_⟩
      rfl
    obtain ⟨hil, hi2⟩ := hil
    have hgx := List.getElem?_eq_getElem hil
    generalize s[i] = x at hgx
    have h0 : (0 : Int) ≤ (i : Int) := by omega
    have h1 : (i : Int) < (s.length : Int) := by omega
    have h2 : (i : Int) < 120 := by omega
    have d1 : decide ((i : Int) < (s.length : Int)) = true := decide_eq_true h1
    have d2 : decide ((i : Int) < 120) = true := decide_eq_true h2
    have wi1 := wS (show i < 9223372036854775807 by omega)
    obtain ⟨hF2, hA, hP2⟩ := hF.apply hP x
    have hm0 := hF.ok
    (repeat' with_reducible first | refine thn2_nrm ?_ | refine thn2_ret ?_ | refine thn2_ex ?_ | refine blk2_nrm ?_ | refine blk2_ret ?_ | refine blk2_at ?_ | (refine blk2_ex ?_ ?_; decide) | refine W2_sas ?_ | refine W2_ss ?_ | refine W2_sret ?_ | refine W2_sexit ?_ | ((first | apply W2_sra | apply W2_srda | apply W2_runa | apply W2_runda); (conv => lhs; simp only [go_sem, ibin, ishift, d1, d2, h1, h2, h0, hil, hgx, cNt]) <;> rfl) | ((first | apply W2_srS | apply W2_runS); decide +kernel; (conv => lhs; simp only [go_sem, ibin, ishift, d1, d2, h1, h2, h0, hil, hgx, cNt]) <;> rfl) | ((first | apply W2_sct | apply W2_t2); (conv => lhs; simp only [go_sem]) <;> rfl; rfl) | ((first | apply W2_scf | apply W2_f2); (conv => lhs; simp only [go_sem]) <;> rfl; rfl) | refine W2_ret ?_ | refine W2_exit ?_ | refine W2_skip ?_ | refine W2_seq ?_ | refine W2_block ?_)
    (first | (((with_reducible first | apply W2_scall | apply W2_scalld | apply W2_calla | apply W2_callda | apply run2a_sound); ((conv => lhs; simp only [go_sem, ibin, ishift, h1, h0, hil, hgx, cNt]) <;> with_reducible rfl))) | ((with_reducible first | apply W2_scallS | apply W2_callS); decide +kernel; ((conv => lhs; simp only [go_sem, ibin, ishift, h1, h0, hil, hgx, cNt]) <;> with_reducible rfl)))
    refine CK_call [1, 2, 3] (apply_spec c.toTabM m hF.ok x) (by decide) (by simp) rfl rfl (by first | rfl | (simp only [go_sem, Mi.h, Nt.v]; done) | (simp only [go_sem, Mi.h, Nt.v] <;> rfl)) ?_
    rintro v h' ⟨rfl, rfl⟩
    have hpl := hP.1
    clear hF hP hm0
    generalize m.apply x = r at hF2 hA hP2
    obtain ⟨m2, e⟩ := r
    simp only at hF2 hA hP2
    unfold Mi.h
    by_cases hek : e = 0 ∧ x.k = 1
    · obtain ⟨a1, a2⟩ := hA hek.1 hek.2
      rw [if_pos hek] at hP2
      obtain ⟨rfl, hk1⟩ := hek
      have r0 : (0 : Int) ≤ x.a := by omega
      have r1 : x.a < 31 := by omega
      have r2 : x.a.toNat + 1 ≤ 31 := by omega
      have dk : decide (x.k = 1) = true := decide_eq_true hk1
      ((with_reducible first | apply WO2_finw | apply WO2_fina); ((conv => lhs; simp only [go_sem, ibin, ishift, dk, h1, h0, hil, hgx, cNt]) <;> with_reducible rfl))
      (repeat' with_reducible first | refine thn2_nrm ?_ | refine thn2_ret ?_ | refine thn2_ex ?_ | refine blk2_nrm ?_ | refine blk2_ret ?_ | refine blk2_at ?_ | (refine blk2_ex ?_ ?_; decide) | refine W2_sas ?_ | refine W2_ss ?_ | refine W2_sret ?_ | refine W2_sexit ?_ | ((first | apply W2_sra | apply W2_srda | apply W2_runa | apply W2_runda); (conv => lhs; simp only [go_sem, ibin, ishift, h1, h0, hil, hgx, cNt, r0, r1, r2, hpl]) <;> rfl) | ((first | apply W2_srS | apply W2_runS); decide +kernel; (conv => lhs; simp only [go_sem, ibin, ishift, h1, h0, hil, hgx, cNt, r0, r1, r2, hpl]) <;> rfl) | ((first | apply W2_sct | apply W2_t2); (conv => lhs; simp only [go_sem]) <;> rfl; rfl) | ((first | apply W2_scf | apply W2_f2); (conv => lhs; simp only [go_sem]) <;> rfl; rfl) | refine W2_ret ?_ | refine W2_exit ?_ | refine W2_skip ?_ | refine W2_seq ?_ | refine W2_block ?_)
      rw [show (p.map fun b => SV.p (PV.b b)).set x.a.toNat (SV.p (PV.b true)) = (p.set x.a.toNat true).map fun b => SV.p (PV.b b) by rw [List.map_set]]
      generalize p.set x.a.toNat true = p2 at hP2
      have ok2 := hF2.ok
      have hw2 := ok2.wl
      have hal := hF2.al
      have hes := hF2.es
      have hdl := ok2.dl
      have hel := ok2.el
      have n0 : (0 : Int) ≤ (l.ns.length : Int) := by omega
      have n1 : (l.ns.length : Int) * 8 ≤ (room : Int) := by simp only [room]; omega
      have hpl := hP2.1
      (repeat' with_reducible first | refine thn2_nrm ?_ | refine thn2_ret ?_ | refine thn2_ex ?_ | refine blk2_nrm ?_ | refine blk2_ret ?_ | refine blk2_at ?_ | (refine blk2_ex ?_ ?_; decide) | refine W2_sas ?_ | refine W2_ss ?_ | refine W2_sret ?_ | refine W2_sexit ?_ | ((first | apply W2_sra | apply W2_srda | apply W2_runa | apply W2_runda); (conv => lhs; simp only [go_sem, ibin, ishift, n0, n1, Int.le_refl]) <;> rfl) | ((first | apply W2_srS | apply W2_runS); decide +kernel; (conv => lhs; simp only [go_sem, ibin, ishift, n0, n1, Int.le_refl]) <;> rfl) | ((first | apply W2_sct | apply W2_t2); (conv => lhs; simp only [go_sem]) <;> rfl; rfl) | ((first | apply W2_scf | apply W2_f2); (conv => lhs; simp only [go_sem]) <;> rfl; rfl) | refine W2_ret ?_ | refine W2_exit ?_ | refine W2_skip ?_ | refine W2_seq ?_ | refine W2_block ?_)
      rw [rep_cI]
      refine W2_loopu (fun mm u g => ∃ (t : Nat) (E : List Int), t + mm = 31 ∧ 1 ≤ t ∧ Ends1 m2 t E ∧ u = [(10, .i .i64 t)] ∧ g = [(5, .arr 1 (E.map cI))]) 30 ⟨1, _, by omega, by omega, Ends1.init hal, rfl, rfl⟩ rfl rfl ?_
      rintro mm u g ⟨t, E, ht, ht1, hE, rfl, rfl⟩
      intro e1 h1 he1 hh1; simp only [egd, supE, hgd, supH, Nat.reduceEqDiff, Nat.reduceAdd, if_true, if_false, reduceIte] at he1 hh1; subst he1; subst hh1
      by_cases ht3 : t ≤ 30
      · have z30 : decide ((t : Int) ≤ 30) = true := decide_eq_true (by omega)
        have wt := wS (show t < 9223372036854775807 by omega)
        have htw : t < m2.w.length := by omega
        have hv := List.getElem?_eq_getElem htw
        have hvr := ok2.wr _ (List.getElem_mem htw)
        generalize m2.w[t] = v at hv hvr
        have hpv := hP2.2 t v ht1 hv
        have hloc : m2.loc t = v - 1 := by rw [Mi.loc, if_neg (by simp [noTote]; omega), Int.toNat_natCast, hv]; rfl
        have t0 : (0 : Int) ≤ (t : Int) := by omega
        have t1 : (t : Int) < 31 := by omega
        have t2 : t + 1 ≤ 31 := by omega
        have t3 : t < 31 := by omega
        (repeat' with_reducible first | refine thn2_nrm ?_ | refine thn2_ret ?_ | refine thn2_ex ?_ | refine blk2_nrm ?_ | refine blk2_ret ?_ | refine blk2_at ?_ | (refine blk2_ex ?_ ?_; decide) | refine W2_sas ?_ | refine W2_ss ?_ | refine W2_sret ?_ | refine W2_sexit ?_ | ((first | apply W2_sra | apply W2_srda | apply W2_runa | apply W2_runda); (conv => lhs; simp only [go_sem, ibin, ishift, z30]) <;> rfl) | ((first | apply W2_srS | apply W2_runS); decide +kernel; (conv => lhs; simp only [go_sem, ibin, ishift, z30]) <;> rfl) | ((first | apply W2_sct | apply W2_t2); (conv => lhs; simp only [go_sem]) <;> rfl; rfl) | ((first | apply W2_scf | apply W2_f2); (conv => lhs; simp only [go_sem]) <;> rfl; rfl) | refine W2_ret ?_ | refine W2_exit ?_ | refine W2_skip ?_ | refine W2_seq ?_ | refine W2_block ?_)
        (first | (((with_reducible first | apply W2_scall | apply W2_scalld | apply W2_calla | apply W2_callda | apply run2a_sound); ((conv => lhs; simp only [go_sem, ibin, ishift]) <;> with_reducible rfl))) | ((with_reducible first | apply W2_scallS | apply W2_callS); decide +kernel; ((conv => lhs; simp only [go_sem, ibin, ishift]) <;> with_reducible rfl)))
        refine CK_call [1, 2, 3] (where_spec c.toTabM m2 ok2 t) (by decide) (by simp) rfl rfl (by first | rfl | (simp only [go_sem, Mi.h]; done) | (simp only [go_sem, Mi.h] <;> rfl)) ?_
        rintro v' h' ⟨rfl, rfl⟩
        rw [hloc]
        unfold Mi.h
        ((with_reducible first | apply WO2_finw | apply WO2_fina); ((conv => lhs; simp only [go_sem, ibin, ishift]) <;> with_reducible rfl))
        by_cases hv0 : v = 0
        · subst hv0
          have em1 : (0 : Int) - 1 = -1 := rfl
          rw [em1]
          have q1 : decide ((-1 : Int) ≥ 0) = false := by decide
          have q2 : decide ((-1 : Int) ≥ (l.ns.length : Int)) = false := decide_eq_false (by omega)
          have q3 : decide ((0 : Int) > 0) = false := by decide
          rw [q3] at hpv
          (repeat' with_reducible first | refine thn2_nrm ?_ | refine thn2_ret ?_ | refine thn2_ex ?_ | refine blk2_nrm ?_ | refine blk2_ret ?_ | refine blk2_at ?_ | (refine blk2_ex ?_ ?_; decide) | refine W2_sas ?_ | refine W2_ss ?_ | refine W2_sret ?_ | refine W2_sexit ?_ | ((first | apply W2_sra | apply W2_srda | apply W2_runa | apply W2_runda); (conv => lhs; simp only [go_sem, ibin, ishift, q1, q2, hpv, t0, t1, t2, t3, hpl, wt]) <;> rfl) | ((first | apply W2_srS | apply W2_runS); decide +kernel; (conv => lhs; simp only [go_sem, ibin, ishift, q1, q2, hpv, t0, t1, t2, t3, hpl, wt]) <;> rfl) | ((first | apply W2_sct | apply W2_t2); (conv => lhs; simp only [go_sem]) <;> rfl; rfl) | ((first | apply W2_scf | apply W2_f2); (conv => lhs; simp only [go_sem]) <;> rfl; rfl) | refine W2_ret ?_ | refine W2_exit ?_ | refine W2_skip ?_ | refine W2_seq ?_ | refine W2_block ?_)
          refine ⟨[0, 1, 2, 3, 4, 5], by decide, rfl, ?_⟩
          exact ⟨31 - (t + 1), _, _, by omega, ⟨t + 1, E, by omega, by omega, hE.no hF2 ht1 hv, rfl, rfl⟩, rfl, (by first | rfl | ((conv => lhs; simp only [go_sem, ibin, ishift]) <;> rfl))⟩
        · obtain ⟨k, rfl⟩ : ∃ k : Nat, v = (k : Int) + 1 := ⟨(v - 1).toNat, by omega⟩
          obtain ⟨b1, b2, b3, b4⟩ := hE.yes hF2 ht1 hv
          have hkE := (List.getElem?_eq_some_iff.1 b1).1
          have ek : (k : Int) + 1 - 1 = (k : Int) := by omega
          rw [ek] at hloc ⊢
          have q1 : decide ((k : Int) ≥ 0) = true := decide_eq_true (by omega)
          have q2 : decide ((k : Int) ≥ (l.ns.length : Int)) = false := decide_eq_false (by omega)
          have q3 : decide ((k : Int) + 1 > 0) = true := decide_eq_true (by omega)
          rw [q3] at hpv
          have k0 : (0 : Int) ≤ (k : Int) := by omega
          have k1 : (k : Int) < (E.length : Int) := by omega
          have k2 : (k : Int) < (l.ns.length : Int) := by omega
          have w01 : IntKind.i64.wrap 1 = 1 := rfl
          have hto : m2.tote k = t := by
            rw [Mi.tote, noNode_out (by omega)]
            simp only [Bool.false_eq_true, if_false, Int.toNat_natCast, b3]; rfl
          have qt : (decide ((t : Int) = (t : Int))) = true := by simp
          (repeat' with_reducible first | refine thn2_nrm ?_ | refine thn2_ret ?_ | refine thn2_ex ?_ | refine blk2_nrm ?_ | refine blk2_ret ?_ | refine blk2_at ?_ | (refine blk2_ex ?_ ?_; decide) | refine W2_sas ?_ | refine W2_ss ?_ | refine W2_sret ?_ | refine W2_sexit ?_ | ((first | apply W2_sra | apply W2_srda | apply W2_runa | apply W2_runda); (conv => lhs; simp only [go_sem, ibin, ishift, q1, q2, hpv, t0, t1, t2, t3, hpl, wt, k0, k1, k2, w01, b1, cI, hkE]) <;> rfl) | ((first | apply W2_srS | apply W2_runS); decide +kernel; (conv => lhs; simp only [go_sem, ibin, ishift, q1, q2, hpv, t0, t1, t2, t3, hpl, wt, k0, k1, k2, w01, b1, cI, hkE]) <;> rfl) | ((first | apply W2_sct | apply W2_t2); (conv => lhs; simp only [go_sem]) <;> rfl; rfl) | ((first | apply W2_scf | apply W2_f2); (conv => lhs; simp only [go_sem]) <;> rfl; rfl) | refine W2_ret ?_ | refine W2_exit ?_ | refine W2_skip ?_ | refine W2_seq ?_ | refine W2_block ?_)
          (first | (((with_reducible first | apply W2_scall | apply W2_scalld | apply W2_calla | apply W2_callda | apply run2a_sound); ((conv => lhs; simp only [go_sem, ibin, ishift]) <;> with_reducible rfl))) | ((with_reducible first | apply W2_scallS | apply W2_callS); decide +kernel; ((conv => lhs; simp only [go_sem, ibin, ishift]) <;> with_reducible rfl)))
          refine CK_call [1, 2, 3] (at_spec c.toTabM m2 hw2 k) (by decide) (by simp) rfl rfl (by first | rfl | (simp only [go_sem, Mi.h]; done) | (simp only [go_sem, Mi.h] <;> rfl)) ?_
          rintro v' h' ⟨rfl, rfl⟩
          rw [hto]
          unfold Mi.h
          ((with_reducible first | apply WO2_finw | apply WO2_fina); ((conv => lhs; simp only [go_sem, ibin, ishift, qt]) <;> with_reducible rfl))
          rw [show (E.map cI).set k [PV.i .i64 1] = (E.set k 1).map cI by rw [List.map_set]; rfl]
          generalize E.set k 1 = E2 at b4
          (repeat' with_reducible first | refine thn2_nrm ?_ | refine thn2_ret ?_ | refine thn2_ex ?_ | refine blk2_nrm ?_ | refine blk2_ret ?_ | refine blk2_at ?_ | (refine blk2_ex ?_ ?_; decide) | refine W2_sas ?_ | refine W2_ss ?_ | refine W2_sret ?_ | refine W2_sexit ?_ | ((first | apply W2_sra | apply W2_srda | apply W2_runa | apply W2_runda); (conv => lhs; simp only [go_sem, ibin, ishift, wt]) <;> rfl) | ((first | apply W2_srS | apply W2_runS); decide +kernel; (conv => lhs; simp only [go_sem, ibin, ishift, wt]) <;> rfl) | ((first | apply W2_sct | apply W2_t2); (conv => lhs; simp only [go_sem]) <;> rfl; rfl) | ((first | apply W2_scf | apply W2_f2); (conv => lhs; simp only [go_sem]) <;> rfl; rfl) | refine W2_ret ?_ | refine W2_exit ?_ | refine W2_skip ?_ | refine W2_seq ?_ | refine W2_block ?_)
          refine ⟨[0, 1, 2, 3, 4, 5], by decide, rfl, ?_⟩
          exact ⟨31 - (t + 1), _, _, by omega, ⟨t + 1, E2, by omega, by omega, b4, rfl, rfl⟩, rfl, (by first | rfl | ((conv => lhs; simp only [go_sem, ibin, ishift]) <;> rfl))⟩
      have ht31 : t = 31 := by omega
      subst ht31
      have hE2 := Ends2.init hF2 hE
      (repeat' with_reducible first | refine thn2_nrm ?_ | refine thn2_ret ?_ | refine thn2_ex ?_ | refine blk2_nrm ?_ | refine blk2_ret ?_ | refine blk2_at ?_ | (refine blk2_ex ?_ ?_; decide) | refine W2_sas ?_ | refine W2_ss ?_ | refine W2_sret ?_ | refine W2_sexit ?_ | ((first | apply W2_sra | apply W2_srda | apply W2_runa | apply W2_runda); (conv => lhs; simp only [go_sem, ibin, ishift]) <;> rfl) | ((first | apply W2_srS | apply W2_runS); decide +kernel; (conv => lhs; simp only [go_sem, ibin, ishift]) <;> rfl) | ((first | apply W2_sct | apply W2_t2); (conv => lhs; simp only [go_sem]) <;> rfl; rfl) | ((first | apply W2_scf | apply W2_f2); (conv => lhs; simp only [go_sem]) <;> rfl; rfl) | refine W2_ret ?_ | refine W2_exit ?_ | refine W2_skip ?_ | refine W2_seq ?_ | refine W2_block ?_)
      have hesl : m2.es.length = l.es.length := by rw [hes]
      refine W2_loopu (fun mm u g => ∃ (d : Nat) (E mv : List Int), d + mm = l.es.length + 1 ∧ 1 ≤ d ∧ Ends2 m2 d E mv ∧ u = [(13, .i .i64 d)] ∧ g = [(5, .arr 1 (E.map cI)), (6, .obj (mv.map fun n => SV.p (PV.i .i64 n)))]) l.es.length ⟨1, _, _, by omega, by omega, hE2, rfl, rfl⟩ rfl rfl ?_
      clear hE2
      rintro mm u g ⟨d, F, mv, hd, hd1, hE2, rfl, rfl⟩
      intro e1 h1 he1 hh1; simp only [egd, supE, hgd, supH, Nat.reduceEqDiff, Nat.reduceAdd, if_true, if_false, reduceIte] at he1 hh1; subst he1; subst hh1
      by_cases hdl2 : d ≤ l.es.length
      · have zd : decide ((d : Int) ≤ (l.es.length : Int)) = true := decide_eq_true (by omega)
        have wd := wS (show d < 9223372036854775807 by omega)
        have hdw : d < m2.ds.length := by omega
        have hx := List.getElem?_eq_getElem hdw
        generalize m2.ds[d] = y at hx
        have hew : d - 1 < m2.es.length := by omega
        have he := List.getElem?_eq_getElem hew
        generalize m2.es[d - 1] = f at he
        have hnd := noDev_out (m := m2) (d := (d : Int)) (by omega)
        (repeat' with_reducible first | refine thn2_nrm ?_ | refine thn2_ret ?_ | refine thn2_ex ?_ | refine blk2_nrm ?_ | refine blk2_ret ?_ | refine blk2_at ?_ | (refine blk2_ex ?_ ?_; decide) | refine W2_sas ?_ | refine W2_ss ?_ | refine W2_sret ?_ | refine W2_sexit ?_ | ((first | apply W2_sra | apply W2_srda | apply W2_runa | apply W2_runda); (conv => lhs; simp only [go_sem, ibin, ishift, zd]) <;> rfl) | ((first | apply W2_srS | apply W2_runS); decide +kernel; (conv => lhs; simp only [go_sem, ibin, ishift, zd]) <;> rfl) | ((first | apply W2_sct | apply W2_t2); (conv => lhs; simp only [go_sem]) <;> rfl; rfl) | ((first | apply W2_scf | apply W2_f2); (conv => lhs; simp only [go_sem]) <;> rfl; rfl) | refine W2_ret ?_ | refine W2_exit ?_ | refine W2_skip ?_ | refine W2_seq ?_ | refine W2_block ?_)
        (first | (((with_reducible first | apply W2_scall | apply W2_scalld | apply W2_calla | apply W2_callda | apply run2a_sound); ((conv => lhs; simp only [go_sem, ibin, ishift]) <;> with_reducible rfl))) | ((with_reducible first | apply W2_scallS | apply W2_callS); decide +kernel; ((conv => lhs; simp only [go_sem, ibin, ishift]) <;> with_reducible rfl)))
        refine CK_call [1, 2, 3] (told_spec c.toTabM m2 hw2 d) (by decide) (by simp) rfl rfl (by first | rfl | (simp only [go_sem, Mi.h]; done) | (simp only [go_sem, Mi.h] <;> rfl)) ?_
        rintro v' h' ⟨rfl, rfl⟩
        by_cases hy0 : y.tote = 0
        · have htd : m2.told d = (0, 0, false) := by
            rw [Mi.told, hnd, Int.toNat_natCast, hx]
            simp only [Bool.false_eq_true, if_false, hy0, if_true]
          rw [htd]
          unfold Mi.h
          have hE3 := hE2.skip hx hy0
          ((with_reducible first | apply WO2_finw | apply WO2_fina); ((conv => lhs; simp only [go_sem, ibin, ishift]) <;> with_reducible rfl))
          (repeat' with_reducible first | refine thn2_nrm ?_ | refine thn2_ret ?_ | refine thn2_ex ?_ | refine blk2_nrm ?_ | refine blk2_ret ?_ | refine blk2_at ?_ | (refine blk2_ex ?_ ?_; decide) | refine W2_sas ?_ | refine W2_ss ?_ | refine W2_sret ?_ | refine W2_sexit ?_ | ((first | apply W2_sra | apply W2_srda | apply W2_runa | apply W2_runda); (conv => lhs; simp only [go_sem, ibin, ishift, wd]) <;> rfl) | ((first | apply W2_srS | apply W2_runS); decide +kernel; (conv => lhs; simp only [go_sem, ibin, ishift, wd]) <;> rfl) | ((first | apply W2_sct | apply W2_t2); (conv => lhs; simp only [go_sem]) <;> rfl; rfl) | ((first | apply W2_scf | apply W2_f2); (conv => lhs; simp only [go_sem]) <;> rfl; rfl) | refine W2_ret ?_ | refine W2_exit ?_ | refine W2_skip ?_ | refine W2_seq ?_ | refine W2_block ?_)
          refine ⟨[0, 1, 2, 3, 4, 5, 6], by decide, rfl, ?_⟩
          exact ⟨l.es.length + 1 - (d + 1), _, _, by omega, ⟨d + 1, F, mv, by omega, by omega, hE3, rfl, rfl⟩, rfl, (by first | rfl | ((conv => lhs; simp only [go_sem, ibin, ishift]) <;> rfl))⟩
        · have htd : m2.told d = (y.tote, y.seq, true) := by
            rw [Mi.told, hnd, Int.toNat_natCast, hx]
            simp only [Bool.false_eq_true, if_false, hy0]
          rw [htd]
          unfold Mi.h
          obtain ⟨t1, t2, hloc, hb0, hb1, hEb, hMb, hE3⟩ := hE2.step hF2 hd1 hx hy0 he
          have hml := hE2.mlen
          have hel2 := hE2.len
          rw [hes] at he
          have hi : ((d : Int) - 1).toNat = d - 1 := by omega
          rw [← hi] at he
          have wd1 : IntKind.i64.wrap ((d : Int) - 1) = (d : Int) - 1 := wi _ (by omega) (by omega)
          have r0 : (0 : Int) ≤ (d : Int) - 1 := by omega
          have r1 : (d : Int) - 1 < (l.es.length : Int) := by omega
          have r2 : ((d : Int) - 1).toNat < l.es.length := by omega
          have s0 : (0 : Int) ≤ y.tote := by omega
          have s1 : y.tote < 31 := by omega
          have s2 : y.tote.toNat < 31 := by omega
          have s3 : y.tote.toNat + 1 ≤ 31 := by omega
          have z1 : decide (y.tote < 1) = false := decide_eq_false (by omega)
          have z2 : decide (y.tote > 30) = false := decide_eq_false (by omega)
          have z3 : decide (f.a = f.a) = true := by simp
          have z4 : decide ((0 : Int) > 0) = false := by decide
          have w01 : IntKind.i64.wrap 1 = 1 := rfl
          have u0 : f.b < (l.ns.length : Int) := by omega
          have u1 : f.b.toNat < F.length := by omega
          have u2 : f.b < (F.length : Int) := by omega
          ((with_reducible first | apply WO2_finw | apply WO2_fina); ((conv => lhs; simp only [go_sem, ibin, ishift]) <;> with_reducible rfl))
          (repeat' with_reducible first | refine thn2_nrm ?_ | refine thn2_ret ?_ | refine thn2_ex ?_ | refine blk2_nrm ?_ | refine blk2_ret ?_ | refine blk2_at ?_ | (refine blk2_ex ?_ ?_; decide) | refine W2_sas ?_ | refine W2_ss ?_ | refine W2_sret ?_ | refine W2_sexit ?_ | ((first | apply W2_sra | apply W2_srda | apply W2_runa | apply W2_runda); (conv => lhs; simp only [go_sem, ibin, ishift]) <;> rfl) | ((first | apply W2_srS | apply W2_runS); decide +kernel; (conv => lhs; simp only [go_sem, ibin, ishift]) <;> rfl) | ((first | apply W2_sct | apply W2_t2); (conv => lhs; simp only [go_sem]) <;> rfl; rfl) | ((first | apply W2_scf | apply W2_f2); (conv => lhs; simp only [go_sem]) <;> rfl; rfl) | refine W2_ret ?_ | refine W2_exit ?_ | refine W2_skip ?_ | refine W2_seq ?_ | refine W2_block ?_)
          (repeat' with_reducible first | refine thn2_nrm ?_ | refine thn2_ret ?_ | refine thn2_ex ?_ | refine blk2_nrm ?_ | refine blk2_ret ?_ | refine blk2_at ?_ | (refine blk2_ex ?_ ?_; decide) | refine W2_sas ?_ | refine W2_ss ?_ | refine W2_sret ?_ | refine W2_sexit ?_ | refine W2_skip ?_ | ((first | apply W2_sct | apply W2_t2); (conv => lhs; simp only [go_sem]) <;> rfl; rfl) | ((first | apply W2_scf | apply W2_f2); (conv => lhs; simp only [go_sem]) <;> rfl; rfl) | refine W2_block ?_ | refine W2_seq ?_ | refine W2_exit ?_)
          (with_reducible first | apply W2_sregH [0, 6] [false, false, false, false, false, false, false, false, false, false, false, true, false, false, false, false, true, false] | apply W2_regH [0, 6] [false, false, false, false, false, false, false, false, false, false, false, true, false, false, false, false, true, false])
          · decide
          · decide
          · rfl
          ((conv => lhs; simp only [go_sem, ibin, ishift, z1, z2]) <;> with_reducible rfl)
          refine EH_call [1, 2, 3] (where_spec c.toTabM m2 ok2 y.tote) (by decide) (by simp) rfl rfl rfl (by first | rfl | (simp only [go_sem, Mi.h]; done) | (simp only [go_sem, Mi.h] <;> rfl)) ?_
          rintro v' h' ⟨rfl, rfl⟩
          rw [hloc]
          unfold Mi.h
          (with_reducible apply WOH_go (by decide); ((conv => lhs; simp only [go_sem, ibin, ishift, wd1, r0, r1, r2, he, cD, z3, s0, s1, s2, s3, hMb, hml, z4]) <;> with_reducible rfl))
          refine EH_go ?_
          (repeat' with_reducible first | refine thn2_nrm ?_ | refine thn2_ret ?_ | refine thn2_ex ?_ | refine blk2_nrm ?_ | refine blk2_ret ?_ | refine blk2_at ?_ | (refine blk2_ex ?_ ?_; decide) | refine W2_sas ?_ | refine W2_ss ?_ | refine W2_sret ?_ | refine W2_sexit ?_ | ((first | apply W2_sra | apply W2_srda | apply W2_runa | apply W2_runda); (conv => lhs; simp only [go_sem, ibin, ishift, s0, s1, s2, s3, hMb, hml, wd1, r0, r1, r2, he, cD, w01, hb0, u0, u1, u2, hEb, cI, wd]) <;> rfl) | ((first | apply W2_srS | apply W2_runS); decide +kernel; (conv => lhs; simp only [go_sem, ibin, ishift, s0, s1, s2, s3, hMb, hml, wd1, r0, r1, r2, he, cD, w01, hb0, u0, u1, u2, hEb, cI, wd]) <;> rfl) | ((first | apply W2_sct | apply W2_t2); (conv => lhs; simp only [go_sem]) <;> rfl; rfl) | ((first | apply W2_scf | apply W2_f2); (conv => lhs; simp only [go_sem]) <;> rfl; rfl) | refine W2_ret ?_ | refine W2_exit ?_ | refine W2_skip ?_ | refine W2_seq ?_ | refine W2_block ?_)
          rw [show (F.map cI).set f.b.toNat [PV.i .i64 1] = (F.set f.b.toNat 1).map cI by rw [List.map_set]; rfl, show (mv.map fun n => SV.p (PV.i .i64 n)).set y.tote.toNat (SV.p (PV.i .i64 1)) = (mv.set y.tote.toNat 1).map fun n => SV.p (PV.i .i64 n) by rw [List.map_set]]
          generalize F.set f.b.toNat 1 = E4 at hE3
          generalize mv.set y.tote.toNat 1 = mv4 at hE3
          (repeat' with_reducible first | refine thn2_nrm ?_ | refine thn2_ret ?_ | refine thn2_ex ?_ | refine blk2_nrm ?_ | refine blk2_ret ?_ | refine blk2_at ?_ | (refine blk2_ex ?_ ?_; decide) | refine W2_sas ?_ | refine W2_ss ?_ | refine W2_sret ?_ | refine W2_sexit ?_ | ((first | apply W2_sra | apply W2_srda | apply W2_runa | apply W2_runda); (conv => lhs; simp only [go_sem, ibin, ishift, wd]) <;> rfl) | ((first | apply W2_srS | apply W2_runS); decide +kernel; (conv => lhs; simp only [go_sem, ibin, ishift, wd]) <;> rfl) | ((first | apply W2_sct | apply W2_t2); (conv => lhs; simp only [go_sem]) <;> rfl; rfl) | ((first | apply W2_scf | apply W2_f2); (conv => lhs; simp only [go_sem]) <;> rfl; rfl) | refine W2_ret ?_ | refine W2_exit ?_ | refine W2_skip ?_ | refine W2_seq ?_ | refine W2_block ?_)
          refine ⟨[0, 1, 2, 3, 4, 5, 6], by decide, rfl, ?_⟩
          exact ⟨l.es.length + 1 - (d + 1), _, _, by omega, ⟨d + 1, E4, mv4, by omega, by omega, hE3, rfl, rfl⟩, rfl, (by first | rfl | ((conv => lhs; simp only [go_sem, ibin, ishift]) <;> rfl))⟩
      have hde : d = m2.es.length + 1 := by omega
      subst hde
      have zd : decide (((m2.es.length + 1 : Nat) : Int) ≤ (l.es.length : Int)) = false := decide_eq_false (by omega)
      (repeat' with_reducible first | refine thn2_nrm ?_ | refine thn2_ret ?_ | refine thn2_ex ?_ | refine blk2_nrm ?_ | refine blk2_ret ?_ | refine blk2_at ?_ | (refine blk2_ex ?_ ?_; decide) | refine W2_sas ?_ | refine W2_ss ?_ | refine W2_sret ?_ | refine W2_sexit ?_ | ((first | apply W2_sra | apply W2_srda | apply W2_runa | apply W2_runda); (conv => lhs; simp only [go_sem, ibin, ishift, zd]) <;> rfl) | ((first | apply W2_srS | apply W2_runS); decide +kernel; (conv => lhs; simp only [go_sem, ibin, ishift, zd]) <;> rfl) | ((first | apply W2_sct | apply W2_t2); (conv => lhs; simp only [go_sem]) <;> rfl; rfl) | ((first | apply W2_scf | apply W2_f2); (conv => lhs; simp only [go_sem]) <;> rfl; rfl) | refine W2_ret ?_ | refine W2_exit ?_ | refine W2_skip ?_ | refine W2_seq ?_ | refine W2_block ?_)
      have hFl := hE2.len
      refine W2_loopu (fun mm u g => ∃ k : Nat, k + mm = F.length ∧ u = [(165, .i .i64 k)] ∧ g = []) F.length ⟨0, by omega, rfl, rfl⟩ rfl rfl ?_
      rintro mm u g ⟨k, hk, rfl, rfl⟩
      intro e1 h1 he1 hh1; simp only [egd, supE, hgd, supH, Nat.reduceEqDiff, Nat.reduceAdd, if_true, if_false, reduceIte] at he1 hh1; subst he1; subst hh1
      by_cases hkl : k < F.length
      · have hg2 := List.getElem?_eq_getElem hkl
        generalize F[k] = y at hg2
        obtain ⟨b1, b2⟩ := hE2.fin hF2 hg2
        obtain ⟨v0, F', rfl⟩ : ∃ v0 F', F = v0 :: F' := by
          cases F with
          | nil => simp at hkl
          | cons a b => exact ⟨a, b, rfl⟩
        have hgc : ([PV.i .i64 v0] :: F'.map cI)[k]? = some [PV.i .i64 y] := by rw [show [PV.i .i64 v0] = cI v0 from rfl, ← List.map_cons, List.getElem?_map, hg2]; rfl
        have hkl2 : k < F'.length + 1 := by simpa using hkl
        have k0 : (0 : Int) ≤ (k : Int) := by omega
        have k1 : (k : Int) < (l.ns.length : Int) := by omega
        have kn : k < l.ns.length := by omega
        have zk : decide (k < l.ns.length) = true := decide_eq_true (by omega)
        have wk := wS (show k < 9223372036854775807 by omega)
        have z0 : decide ((0 : Int) > 1) = false := by decide
        have z1 : decide ((1 : Int) > 1) = false := by decide
        (repeat' with_reducible first | refine thn2_nrm ?_ | refine thn2_ret ?_ | refine thn2_ex ?_ | refine blk2_nrm ?_ | refine blk2_ret ?_ | refine blk2_at ?_ | (refine blk2_ex ?_ ?_; decide) | refine W2_sas ?_ | refine W2_ss ?_ | refine W2_sret ?_ | refine W2_sexit ?_ | ((first | apply W2_sra | apply W2_srda | apply W2_runa | apply W2_runda); (conv => lhs; simp only [go_sem, ibin, ishift, zk]) <;> rfl) | ((first | apply W2_srS | apply W2_runS); decide +kernel; (conv => lhs; simp only [go_sem, ibin, ishift, zk]) <;> rfl) | ((first | apply W2_sct | apply W2_t2); (conv => lhs; simp only [go_sem]) <;> rfl; rfl) | ((first | apply W2_scf | apply W2_f2); (conv => lhs; simp only [go_sem]) <;> rfl; rfl) | refine W2_ret ?_ | refine W2_exit ?_ | refine W2_skip ?_ | refine W2_seq ?_ | refine W2_block ?_)
        (repeat' with_reducible first | refine thn2_nrm ?_ | refine thn2_ret ?_ | refine thn2_ex ?_ | refine blk2_nrm ?_ | refine blk2_ret ?_ | refine blk2_at ?_ | (refine blk2_ex ?_ ?_; decide) | refine W2_sas ?_ | refine W2_ss ?_ | refine W2_sret ?_ | refine W2_sexit ?_ | refine W2_skip ?_ | ((first | apply W2_sct | apply W2_t2); (conv => lhs; simp only [go_sem]) <;> rfl; rfl) | ((first | apply W2_scf | apply W2_f2); (conv => lhs; simp only [go_sem]) <;> rfl; rfl) | refine W2_block ?_ | refine W2_seq ?_ | refine W2_exit ?_)
        rcases b1 with rfl | rfl
        · rw [show decide ((0 : Int) = 1) = false from rfl] at b2
          (with_reducible first | apply W2_sregH [5] [false, false, false, false, false, false, false, false, false, false, false, false, true, false] | apply W2_regH [5] [false, false, false, false, false, false, false, false, false, false, false, false, true, false])
          · decide
          · decide
          · rfl
          ((conv => lhs; simp only [go_sem, ibin, ishift, k0, k1, kn, hkl2, hgc, cI, z0]) <;> with_reducible rfl)
          refine EH_call [1, 2, 3] (taken_spec c.toTabM m2 ok2 k) (by decide) (by simp) rfl rfl rfl (by first | rfl | (simp only [go_sem, Mi.h]; done) | (simp only [go_sem, Mi.h] <;> rfl)) ?_
          rintro v' h' ⟨rfl, rfl⟩
          rw [b2]
          unfold Mi.h
          (with_reducible apply WOH_go (by decide); ((conv => lhs; simp only [go_sem, ibin, ishift, k0, k1, kn, hkl2, hgc, cI]) <;> with_reducible rfl))
          refine EH_go ?_
          (repeat' with_reducible first | refine thn2_nrm ?_ | refine thn2_ret ?_ | refine thn2_ex ?_ | refine blk2_nrm ?_ | refine blk2_ret ?_ | refine blk2_at ?_ | (refine blk2_ex ?_ ?_; decide) | refine W2_sas ?_ | refine W2_ss ?_ | refine W2_sret ?_ | refine W2_sexit ?_ | ((first | apply W2_sra | apply W2_srda | apply W2_runa | apply W2_runda); (conv => lhs; simp only [go_sem, ibin, ishift, wk]) <;> rfl) | ((first | apply W2_srS | apply W2_runS); decide +kernel; (conv => lhs; simp only [go_sem, ibin, ishift, wk]) <;> rfl) | ((first | apply W2_sct | apply W2_t2); (conv => lhs; simp only [go_sem]) <;> rfl; rfl) | ((first | apply W2_scf | apply W2_f2); (conv => lhs; simp only [go_sem]) <;> rfl; rfl) | refine W2_ret ?_ | refine W2_exit ?_ | refine W2_skip ?_ | refine W2_seq ?_ | refine W2_block ?_)
          refine ⟨[0, 1, 2, 3, 4, 5, 6], by decide, rfl, ?_⟩
          exact ⟨(v0 :: F').length - (k + 1), _, _, by omega, ⟨k + 1, by omega, rfl, rfl⟩, rfl, (by first | rfl | ((conv => lhs; simp only [go_sem, ibin, ishift]) <;> rfl))⟩
        · rw [show decide ((1 : Int) = 1) = true from rfl] at b2
          (with_reducible first | apply W2_sregH [5] [false, false, false, false, false, false, false, false, false, false, false, false, true, false] | apply W2_regH [5] [false, false, false, false, false, false, false, false, false, false, false, false, true, false])
          · decide
          · decide
          · rfl
          ((conv => lhs; simp only [go_sem, ibin, ishift, k0, k1, kn, hkl2, hgc, cI, z1]) <;> with_reducible rfl)
          refine EH_call [1, 2, 3] (taken_spec c.toTabM m2 ok2 k) (by decide) (by simp) rfl rfl rfl (by first | rfl | (simp only [go_sem, Mi.h]; done) | (simp only [go_sem, Mi.h] <;> rfl)) ?_
          rintro v' h' ⟨rfl, rfl⟩
          rw [b2]
          unfold Mi.h
          (with_reducible apply WOH_go (by decide); ((conv => lhs; simp only [go_sem, ibin, ishift, k0, k1, kn, hkl2, hgc, cI]) <;> with_reducible rfl))
          refine EH_go ?_
          (repeat' with_reducible first | refine thn2_nrm ?_ | refine thn2_ret ?_ | refine thn2_ex ?_ | refine blk2_nrm ?_ | refine blk2_ret ?_ | refine blk2_at ?_ | (refine blk2_ex ?_ ?_; decide) | refine W2_sas ?_ | refine W2_ss ?_ | refine W2_sret ?_ | refine W2_sexit ?_ | ((first | apply W2_sra | apply W2_srda | apply W2_runa | apply W2_runda); (conv => lhs; simp only [go_sem, ibin, ishift, wk]) <;> rfl) | ((first | apply W2_srS | apply W2_runS); decide +kernel; (conv => lhs; simp only [go_sem, ibin, ishift, wk]) <;> rfl) | ((first | apply W2_sct | apply W2_t2); (conv => lhs; simp only [go_sem]) <;> rfl; rfl) | ((first | apply W2_scf | apply W2_f2); (conv => lhs; simp only [go_sem]) <;> rfl; rfl) | refine W2_ret ?_ | refine W2_exit ?_ | refine W2_skip ?_ | refine W2_seq ?_ | refine W2_block ?_)
          refine ⟨[0, 1, 2, 3, 4, 5, 6], by decide, rfl, ?_⟩
          exact ⟨(v0 :: F').length - (k + 1), _, _, by omega, ⟨k + 1, by omega, rfl, rfl⟩, rfl, (by first | rfl | ((conv => lhs; simp only [go_sem, ibin, ishift]) <;> rfl))⟩
      have zk : decide (k < l.ns.length) = false := decide_eq_false (by omega)
      (repeat' with_reducible first | refine thn2_nrm ?_ | refine thn2_ret ?_ | refine thn2_ex ?_ | refine blk2_nrm ?_ | refine blk2_ret ?_ | refine blk2_at ?_ | (refine blk2_ex ?_ ?_; decide) | refine W2_sas ?_ | refine W2_ss ?_ | refine W2_sret ?_ | refine W2_sexit ?_ | ((first | apply W2_sra | apply W2_srda | apply W2_runa | apply W2_runda); (conv => lhs; simp only [go_sem, ibin, ishift, zk, wi1]) <;> rfl) | ((first | apply W2_srS | apply W2_runS); decide +kernel; (conv => lhs; simp only [go_sem, ibin, ishift, zk, wi1]) <;> rfl) | ((first | apply W2_sct | apply W2_t2); (conv => lhs; simp only [go_sem]) <;> rfl; rfl) | ((first | apply W2_scf | apply W2_f2); (conv => lhs; simp only [go_sem]) <;> rfl; rfl) | refine W2_ret ?_ | refine W2_exit ?_ | refine W2_skip ?_ | refine W2_seq ?_ | refine W2_block ?_)
      refine ⟨[0, 1, 2, 3, 4], by decide, rfl, ?_⟩
      exact ⟨120 - (i + 1), _, _, by omega, ⟨i + 1, m2, _, by omega, hF2, hP2, rfl, rfl⟩, rfl, (by first | rfl | ((conv => lhs; simp only [go_sem, ibin, ishift]) <;> rfl))⟩
    · rw [if_neg hek] at hP2
      by_cases he0 : e = 0
      · subst he0
        have dk : decide (x.k = 1) = false := decide_eq_false fun h => hek ⟨rfl, h⟩
        ((with_reducible first | apply WO2_finw | apply WO2_fina); ((conv => lhs; simp only [go_sem, ibin, ishift, dk, h1, h0, hil, hgx, cNt]) <;> with_reducible rfl))
        have ok2 := hF2.ok
        have hw2 := ok2.wl
        have hal := hF2.al
        have hes := hF2.es
        have hdl := ok2.dl
        have hel := ok2.el
        have n0 : (0 : Int) ≤ (l.ns.length : Int) := by omega
        have n1 : (l.ns.length : Int) * 8 ≤ (room : Int) := by simp only [room]; omega
        have hpl := hP2.1
        (repeat' with_reducible first | refine thn2_nrm ?_ | refine thn2_ret ?_ | refine thn2_ex ?_ | refine blk2_nrm ?_ | refine blk2_ret ?_ | refine blk2_at ?_ | (refine blk2_ex ?_ ?_; decide) | refine W2_sas ?_ | refine W2_ss ?_ | refine W2_sret ?_ | refine W2_sexit ?_ | ((first | apply W2_sra | apply W2_srda | apply W2_runa | apply W2_runda); (conv => lhs; simp only [go_sem, ibin, ishift, n0, n1, Int.le_refl]) <;> rfl) | ((first | apply W2_srS | apply W2_runS); decide +kernel; (conv => lhs; simp only [go_sem, ibin, ishift, n0, n1, Int.le_refl]) <;> rfl) | ((first | apply W2_sct | apply W2_t2); (conv => lhs; simp only [go_sem]) <;> rfl; rfl) | ((first | apply W2_scf | apply W2_f2); (conv => lhs; simp only [go_sem]) <;> rfl; rfl) | refine W2_ret ?_ | refine W2_exit ?_ | refine W2_skip ?_ | refine W2_seq ?_ | refine W2_block ?_)
        rw [rep_cI]
        refine W2_loopu (fun mm u g => ∃ (t : Nat) (E : List Int), t + mm = 31 ∧ 1 ≤ t ∧ Ends1 m2 t E ∧ u = [(10, .i .i64 t)] ∧ g = [(5, .arr 1 (E.map cI))]) 30 ⟨1, _, by omega, by omega, Ends1.init hal, rfl, rfl⟩ rfl rfl ?_
        rintro mm u g ⟨t, E, ht, ht1, hE, rfl, rfl⟩
        intro e1 h1 he1 hh1; simp only [egd, supE, hgd, supH, Nat.reduceEqDiff, Nat.reduceAdd, if_true, if_false, reduceIte] at he1 hh1; subst he1; subst hh1
        by_cases ht3 : t ≤ 30
        · have z30 : decide ((t : Int) ≤ 30) = true := decide_eq_true (by omega)
          have wt := wS (show t < 9223372036854775807 by omega)
          have htw : t < m2.w.length := by omega
          have hv := List.getElem?_eq_getElem htw
          have hvr := ok2.wr _ (List.getElem_mem htw)
          generalize m2.w[t] = v at hv hvr
          have hpv := hP2.2 t v ht1 hv
          have hloc : m2.loc t = v - 1 := by rw [Mi.loc, if_neg (by simp [noTote]; omega), Int.toNat_natCast, hv]; rfl
          have t0 : (0 : Int) ≤ (t : Int) := by omega
          have t1 : (t : Int) < 31 := by omega
          have t2 : t + 1 ≤ 31 := by omega
          have t3 : t < 31 := by omega
          (repeat' with_reducible first | refine thn2_nrm ?_ | refine thn2_ret ?_ | refine thn2_ex ?_ | refine blk2_nrm ?_ | refine blk2_ret ?_ | refine blk2_at ?_ | (refine blk2_ex ?_ ?_; decide) | refine W2_sas ?_ | refine W2_ss ?_ | refine W2_sret ?_ | refine W2_sexit ?_ | ((first | apply W2_sra | apply W2_srda | apply W2_runa | apply W2_runda); (conv => lhs; simp only [go_sem, ibin, ishift, z30]) <;> rfl) | ((first | apply W2_srS | apply W2_runS); decide +kernel; (conv => lhs; simp only [go_sem, ibin, ishift, z30]) <;> rfl) | ((first | apply W2_sct | apply W2_t2); (conv => lhs; simp only [go_sem]) <;> rfl; rfl) | ((first | apply W2_scf | apply W2_f2); (conv => lhs; simp only [go_sem]) <;> rfl; rfl) | refine W2_ret ?_ | refine W2_exit ?_ | refine W2_skip ?_ | refine W2_seq ?_ | refine W2_block ?_)
          (first | (((with_reducible first | apply W2_scall | apply W2_scalld | apply W2_calla | apply W2_callda | apply run2a_sound); ((conv => lhs; simp only [go_sem, ibin, ishift]) <;> with_reducible rfl))) | ((with_reducible first | apply W2_scallS | apply W2_callS); decide +kernel; ((conv => lhs; simp only [go_sem, ibin, ishift]) <;> with_reducible rfl)))
          refine CK_call [1, 2, 3] (where_spec c.toTabM m2 ok2 t) (by decide) (by simp) rfl rfl (by first | rfl | (simp only [go_sem, Mi.h]; done) | (simp only [go_sem, Mi.h] <;> rfl)) ?_
          rintro v' h' ⟨rfl, rfl⟩
          rw [hloc]
          unfold Mi.h
          ((with_reducible first | apply WO2_finw | apply WO2_fina); ((conv => lhs; simp only [go_sem, ibin, ishift]) <;> with_reducible rfl))
          by_cases hv0 : v = 0
          · subst hv0
            have em1 : (0 : Int) - 1 = -1 := rfl
            rw [em1]
            have q1 : decide ((-1 : Int) ≥ 0) = false := by decide
            have q2 : decide ((-1 : Int) ≥ (l.ns.length : Int)) = false := decide_eq_false (by omega)
            have q3 : decide ((0 : Int) > 0) = false := by decide
            rw [q3] at hpv
            (repeat' with_reducible first | refine thn2_nrm ?_ | refine thn2_ret ?_ | refine thn2_ex ?_ | refine blk2_nrm ?_ | refine blk2_ret ?_ | refine blk2_at ?_ | (refine blk2_ex ?_ ?_; decide) | refine W2_sas ?_ | refine W2_ss ?_ | refine W2_sret ?_ | refine W2_sexit ?_ | ((first | apply W2_sra | apply W2_srda | apply W2_runa | apply W2_runda); (conv => lhs; simp only [go_sem, ibin, ishift, q1, q2, hpv, t0, t1, t2, t3, hpl, wt]) <;> rfl) | ((first | apply W2_srS | apply W2_runS); decide +kernel; (conv => lhs; simp only [go_sem, ibin, ishift, q1, q2, hpv, t0, t1, t2, t3, hpl, wt]) <;> rfl) | ((first | apply W2_sct | apply W2_t2); (conv => lhs; simp only [go_sem]) <;> rfl; rfl) | ((first | apply W2_scf | apply W2_f2); (conv => lhs; simp only [go_sem]) <;> rfl; rfl) | refine W2_ret ?_ | refine W2_exit ?_ | refine W2_skip ?_ | refine W2_seq ?_ | refine W2_block ?_)
            refine ⟨[0, 1, 2, 3, 4, 5], by decide, rfl, ?_⟩
            exact ⟨31 - (t + 1), _, _, by omega, ⟨t + 1, E, by omega, by omega, hE.no hF2 ht1 hv, rfl, rfl⟩, rfl, (by first | rfl | ((conv => lhs; simp only [go_sem, ibin, ishift]) <;> rfl))⟩
          · obtain ⟨k, rfl⟩ : ∃ k : Nat, v = (k : Int) + 1 := ⟨(v - 1).toNat, by omega⟩
            obtain ⟨b1, b2, b3, b4⟩ := hE.yes hF2 ht1 hv
            have hkE := (List.getElem?_eq_some_iff.1 b1).1
            have ek : (k : Int) + 1 - 1 = (k : Int) := by omega
            rw [ek] at hloc ⊢
            have q1 : decide ((k : Int) ≥ 0) = true := decide_eq_true (by omega)
            have q2 : decide ((k : Int) ≥ (l.ns.length : Int)) = false := decide_eq_false (by omega)
            have q3 : decide ((k : Int) + 1 > 0) = true := decide_eq_true (by omega)
            rw [q3] at hpv
            have k0 : (0 : Int) ≤ (k : Int) := by omega
            have k1 : (k : Int) < (E.length : Int) := by omega
            have k2 : (k : Int) < (l.ns.length : Int) := by omega
            have w01 : IntKind.i64.wrap 1 = 1 := rfl
            have hto : m2.tote k = t := by
              rw [Mi.tote, noNode_out (by omega)]
              simp only [Bool.false_eq_true, if_false, Int.toNat_natCast, b3]; rfl
            have qt : (decide ((t : Int) = (t : Int))) = true := by simp
            (repeat' with_reducible first | refine thn2_nrm ?_ | refine thn2_ret ?_ | refine thn2_ex ?_ | refine blk2_nrm ?_ | refine blk2_ret ?_ | refine blk2_at ?_ | (refine blk2_ex ?_ ?_; decide) | refine W2_sas ?_ | refine W2_ss ?_ | refine W2_sret ?_ | refine W2_sexit ?_ | ((first | apply W2_sra | apply W2_srda | apply W2_runa | apply W2_runda); (conv => lhs; simp only [go_sem, ibin, ishift, q1, q2, hpv, t0, t1, t2, t3, hpl, wt, k0, k1, k2, w01, b1, cI, hkE]) <;> rfl) | ((first | apply W2_srS | apply W2_runS); decide +kernel; (conv => lhs; simp only [go_sem, ibin, ishift, q1, q2, hpv, t0, t1, t2, t3, hpl, wt, k0, k1, k2, w01, b1, cI, hkE]) <;> rfl) | ((first | apply W2_sct | apply W2_t2); (conv => lhs; simp only [go_sem]) <;> rfl; rfl) | ((first | apply W2_scf | apply W2_f2); (conv => lhs; simp only [go_sem]) <;> rfl; rfl) | refine W2_ret ?_ | refine W2_exit ?_ | refine W2_skip ?_ | refine W2_seq ?_ | refine W2_block ?_)
            (first | (((with_reducible first | apply W2_scall | apply W2_scalld | apply W2_calla | apply W2_callda | apply run2a_sound); ((conv => lhs; simp only [go_sem, ibin, ishift]) <;> with_reducible rfl))) | ((with_reducible first | apply W2_scallS | apply W2_callS); decide +kernel; ((conv => lhs; simp only [go_sem, ibin, ishift]) <;> with_reducible rfl)))
            refine CK_call [1, 2, 3] (at_spec c.toTabM m2 hw2 k) (by decide) (by simp) rfl rfl (by first | rfl | (simp only [go_sem, Mi.h]; done) | (simp only [go_sem, Mi.h] <;> rfl)) ?_
            rintro v' h' ⟨rfl, rfl⟩
            rw [hto]
            unfold Mi.h
            ((with_reducible first | apply WO2_finw | apply WO2_fina); ((conv => lhs; simp only [go_sem, ibin, ishift, qt]) <;> with_reducible rfl))
            rw [show (E.map cI).set k [PV.i .i64 1] = (E.set k 1).map cI by rw [List.map_set]; rfl]
            generalize E.set k 1 = E2 at b4
            (repeat' with_reducible first | refine thn2_nrm ?_ | refine thn2_ret ?_ | refine thn2_ex ?_ | refine blk2_nrm ?_ | refine blk2_ret ?_ | refine blk2_at ?_ | (refine blk2_ex ?_ ?_; decide) | refine W2_sas ?_ | refine W2_ss ?_ | refine W2_sret ?_ | refine W2_sexit ?_ | ((first | apply W2_sra | apply W2_srda | apply W2_runa | apply W2_runda); (conv => lhs; simp only [go_sem, ibin, ishift, wt]) <;> rfl) | ((first | apply W2_srS | apply W2_runS); decide +kernel; (conv => lhs; simp only [go_sem, ibin, ishift, wt]) <;> rfl) | ((first | apply W2_sct | apply W2_t2); (conv => lhs; simp only [go_sem]) <;> rfl; rfl) | ((first | apply W2_scf | apply W2_f2); (conv => lhs; simp only [go_sem]) <;> rfl; rfl) | refine W2_ret ?_ | refine W2_exit ?_ | refine W2_skip ?_ | refine W2_seq ?_ | refine W2_block ?_)
            refine ⟨[0, 1, 2, 3, 4, 5], by decide, rfl, ?_⟩
            exact ⟨31 - (t + 1), _, _, by omega, ⟨t + 1, E2, by omega, by omega, b4, rfl, rfl⟩, rfl, (by first | rfl | ((conv => lhs; simp only [go_sem, ibin, ishift]) <;> rfl))⟩
        have ht31 : t = 31 := by omega
        subst ht31
        have hE2 := Ends2.init hF2 hE
        (repeat' with_reducible first | refine thn2_nrm ?_ | refine thn2_ret ?_ | refine thn2_ex ?_ | refine blk2_nrm ?_ | refine blk2_ret ?_ | refine blk2_at ?_ | (refine blk2_ex ?_ ?_; decide) | refine W2_sas ?_ | refine W2_ss ?_ | refine W2_sret ?_ | refine W2_sexit ?_ | ((first | apply W2_sra | apply W2_srda | apply W2_runa | apply W2_runda); (conv => lhs; simp only [go_sem, ibin, ishift]) <;> rfl) | ((first | apply W2_srS | apply W2_runS); decide +kernel; (conv => lhs; simp only [go_sem, ibin, ishift]) <;> rfl) | ((first | apply W2_sct | apply W2_t2); (conv => lhs; simp only [go_sem]) <;> rfl; rfl) | ((first | apply W2_scf | apply W2_f2); (conv => lhs; simp only [go_sem]) <;> rfl; rfl) | refine W2_ret ?_ | refine W2_exit ?_ | refine W2_skip ?_ | refine W2_seq ?_ | refine W2_block ?_)
        have hesl : m2.es.length = l.es.length := by rw [hes]
        refine W2_loopu (fun mm u g => ∃ (d : Nat) (E mv : List Int), d + mm = l.es.length + 1 ∧ 1 ≤ d ∧ Ends2 m2 d E mv ∧ u = [(13, .i .i64 d)] ∧ g = [(5, .arr 1 (E.map cI)), (6, .obj (mv.map fun n => SV.p (PV.i .i64 n)))]) l.es.length ⟨1, _, _, by omega, by omega, hE2, rfl, rfl⟩ rfl rfl ?_
        clear hE2
        rintro mm u g ⟨d, F, mv, hd, hd1, hE2, rfl, rfl⟩
        intro e1 h1 he1 hh1; simp only [egd, supE, hgd, supH, Nat.reduceEqDiff, Nat.reduceAdd, if_true, if_false, reduceIte] at he1 hh1; subst he1; subst hh1
        by_cases hdl2 : d ≤ l.es.length
        · have zd : decide ((d : Int) ≤ (l.es.length : Int)) = true := decide_eq_true (by omega)
          have wd := wS (show d < 9223372036854775807 by omega)
          have hdw : d < m2.ds.length := by omega
          have hx := List.getElem?_eq_getElem hdw
          generalize m2.ds[d] = y at hx
          have hew : d - 1 < m2.es.length := by omega
          have he := List.getElem?_eq_getElem hew
          generalize m2.es[d - 1] = f at he
          have hnd := noDev_out (m := m2) (d := (d : Int)) (by omega)
          (repeat' with_reducible first | refine thn2_nrm ?_ | refine thn2_ret ?_ | refine thn2_ex ?_ | refine blk2_nrm ?_ | refine blk2_ret ?_ | refine blk2_at ?_ | (refine blk2_ex ?_ ?_; decide) | refine W2_sas ?_ | refine W2_ss ?_ | refine W2_sret ?_ | refine W2_sexit ?_ | ((first | apply W2_sra | apply W2_srda | apply W2_runa | apply W2_runda); (conv => lhs; simp only [go_sem, ibin, ishift, zd]) <;> rfl) | ((first | apply W2_srS | apply W2_runS); decide +kernel; (conv => lhs; simp only [go_sem, ibin, ishift, zd]) <;> rfl) | ((first | apply W2_sct | apply W2_t2); (conv => lhs; simp only [go_sem]) <;> rfl; rfl) | ((first | apply W2_scf | apply W2_f2); (conv => lhs; simp only [go_sem]) <;> rfl; rfl) | refine W2_ret ?_ | refine W2_exit ?_ | refine W2_skip ?_ | refine W2_seq ?_ | refine W2_block ?_)
          (first | (((with_reducible first | apply W2_scall | apply W2_scalld | apply W2_calla | apply W2_callda | apply run2a_sound); ((conv => lhs; simp only [go_sem, ibin, ishift]) <;> with_reducible rfl))) | ((with_reducible first | apply W2_scallS | apply W2_callS); decide +kernel; ((conv => lhs; simp only [go_sem, ibin, ishift]) <;> with_reducible rfl)))
          refine CK_call [1, 2, 3] (told_spec c.toTabM m2 hw2 d) (by decide) (by simp) rfl rfl (by first | rfl | (simp only [go_sem, Mi.h]; done) | (simp only [go_sem, Mi.h] <;> rfl)) ?_
          rintro v' h' ⟨rfl, rfl⟩
          by_cases hy0 : y.tote = 0
          · have htd : m2.told d = (0, 0, false) := by
              rw [Mi.told, hnd, Int.toNat_natCast, hx]
              simp only [Bool.false_eq_true, if_false, hy0, if_true]
            rw [htd]
            unfold Mi.h
            have hE3 := hE2.skip hx hy0
            ((with_reducible first | apply WO2_finw | apply WO2_fina); ((conv => lhs; simp only [go_sem, ibin, ishift]) <;> with_reducible rfl))
            (repeat' with_reducible first | refine thn2_nrm ?_ | refine thn2_ret ?_ | refine thn2_ex ?_ | refine blk2_nrm ?_ | refine blk2_ret ?_ | refine blk2_at ?_ | (refine blk2_ex ?_ ?_; decide) | refine W2_sas ?_ | refine W2_ss ?_ | refine W2_sret ?_ | refine W2_sexit ?_ | ((first | apply W2_sra | apply W2_srda | apply W2_runa | apply W2_runda); (conv => lhs; simp only [go_sem, ibin, ishift, wd]) <;> rfl) | ((first | apply W2_srS | apply W2_runS); decide +kernel; (conv => lhs; simp only [go_sem, ibin, ishift, wd]) <;> rfl) | ((first | apply W2_sct | apply W2_t2); (conv => lhs; simp only [go_sem]) <;> rfl; rfl) | ((first | apply W2_scf | apply W2_f2); (conv => lhs; simp only [go_sem]) <;> rfl; rfl) | refine W2_ret ?_ | refine W2_exit ?_ | refine W2_skip ?_ | refine W2_seq ?_ | refine W2_block ?_)
            refine ⟨[0, 1, 2, 3, 4, 5, 6], by decide, rfl, ?_⟩
            exact ⟨l.es.length + 1 - (d + 1), _, _, by omega, ⟨d + 1, F, mv, by omega, by omega, hE3, rfl, rfl⟩, rfl, (by first | rfl | ((conv => lhs; simp only [go_sem, ibin, ishift]) <;> rfl))⟩
          · have htd : m2.told d = (y.tote, y.seq, true) := by
              rw [Mi.told, hnd, Int.toNat_natCast, hx]
              simp only [Bool.false_eq_true, if_false, hy0]
            rw [htd]
            unfold Mi.h
            obtain ⟨t1, t2, hloc, hb0, hb1, hEb, hMb, hE3⟩ := hE2.step hF2 hd1 hx hy0 he
            have hml := hE2.mlen
            have hel2 := hE2.len
            rw [hes] at he
            have hi : ((d : Int) - 1).toNat = d - 1 := by omega
            rw [← hi] at he
            have wd1 : IntKind.i64.wrap ((d : Int) - 1) = (d : Int) - 1 := wi _ (by omega) (by omega)
            have r0 : (0 : Int) ≤ (d : Int) - 1 := by omega
            have r1 : (d : Int) - 1 < (l.es.length : Int) := by omega
            have r2 : ((d : Int) - 1).toNat < l.es.length := by omega
            have s0 : (0 : Int) ≤ y.tote := by omega
            have s1 : y.tote < 31 := by omega
            have s2 : y.tote.toNat < 31 := by omega
            have s3 : y.tote.toNat + 1 ≤ 31 := by omega
            have z1 : decide (y.tote < 1) = false := decide_eq_false (by omega)
            have z2 : decide (y.tote > 30) = false := decide_eq_false (by omega)
            have z3 : decide (f.a = f.a) = true := by simp
            have z4 : decide ((0 : Int) > 0) = false := by decide
            have w01 : IntKind.i64.wrap 1 = 1 := rfl
            have u0 : f.b < (l.ns.length : Int) := by omega
            have u1 : f.b.toNat < F.length := by omega
            have u2 : f.b < (F.length : Int) := by omega
            ((with_reducible first | apply WO2_finw | apply WO2_fina); ((conv => lhs; simp only [go_sem, ibin, ishift]) <;> with_reducible rfl))
            (repeat' with_reducible first | refine thn2_nrm ?_ | refine thn2_ret ?_ | refine thn2_ex ?_ | refine blk2_nrm ?_ | refine blk2_ret ?_ | refine blk2_at ?_ | (refine blk2_ex ?_ ?_; decide) | refine W2_sas ?_ | refine W2_ss ?_ | refine W2_sret ?_ | refine W2_sexit ?_ | ((first | apply W2_sra | apply W2_srda | apply W2_runa | apply W2_runda); (conv => lhs; simp only [go_sem, ibin, ishift]) <;> rfl) | ((first | apply W2_srS | apply W2_runS); decide +kernel; (conv => lhs; simp only [go_sem, ibin, ishift]) <;> rfl) | ((first | apply W2_sct | apply W2_t2); (conv => lhs; simp only [go_sem]) <;> rfl; rfl) | ((first | apply W2_scf | apply W2_f2); (conv => lhs; simp only [go_sem]) <;> rfl; rfl) | refine W2_ret ?_ | refine W2_exit ?_ | refine W2_skip ?_ | refine W2_seq ?_ | refine W2_block ?_)
            (repeat' with_reducible first | refine thn2_nrm ?_ | refine thn2_ret ?_ | refine thn2_ex ?_ | refine blk2_nrm ?_ | refine blk2_ret ?_ | refine blk2_at ?_ | (refine blk2_ex ?_ ?_; decide) | refine W2_sas ?_ | refine W2_ss ?_ | refine W2_sret ?_ | refine W2_sexit ?_ | refine W2_skip ?_ | ((first | apply W2_sct | apply W2_t2); (conv => lhs; simp only [go_sem]) <;> rfl; rfl) | ((first | apply W2_scf | apply W2_f2); (conv => lhs; simp only [go_sem]) <;> rfl; rfl) | refine W2_block ?_ | refine W2_seq ?_ | refine W2_exit ?_)
            (with_reducible first | apply W2_sregH [0, 6] [false, false, false, false, false, false, false, false, false, false, false, true, false, false, false, false, true, false] | apply W2_regH [0, 6] [false, false, false, false, false, false, false, false, false, false, false, true, false, false, false, false, true, false])
            · decide
            · decide
            · rfl
            ((conv => lhs; simp only [go_sem, ibin, ishift, z1, z2]) <;> with_reducible rfl)
            refine EH_call [1, 2, 3] (where_spec c.toTabM m2 ok2 y.tote) (by decide) (by simp) rfl rfl rfl (by first | rfl | (simp only [go_sem, Mi.h]; done) | (simp only [go_sem, Mi.h] <;> rfl)) ?_
            rintro v' h' ⟨rfl, rfl⟩
            rw [hloc]
            unfold Mi.h
            (with_reducible apply WOH_go (by decide); ((conv => lhs; simp only [go_sem, ibin, ishift, wd1, r0, r1, r2, he, cD, z3, s0, s1, s2, s3, hMb, hml, z4]) <;> with_reducible rfl))
            refine EH_go ?_
            (repeat' with_reducible first | refine thn2_nrm ?_ | refine thn2_ret ?_ | refine thn2_ex ?_ | refine blk2_nrm ?_ | refine blk2_ret ?_ | refine blk2_at ?_ | (refine blk2_ex ?_ ?_; decide) | refine W2_sas ?_ | refine W2_ss ?_ | refine W2_sret ?_ | refine W2_sexit ?_ | ((first | apply W2_sra | apply W2_srda | apply W2_runa | apply W2_runda); (conv => lhs; simp only [go_sem, ibin, ishift, s0, s1, s2, s3, hMb, hml, wd1, r0, r1, r2, he, cD, w01, hb0, u0, u1, u2, hEb, cI, wd]) <;> rfl) | ((first | apply W2_srS | apply W2_runS); decide +kernel; (conv => lhs; simp only [go_sem, ibin, ishift, s0, s1, s2, s3, hMb, hml, wd1, r0, r1, r2, he, cD, w01, hb0, u0, u1, u2, hEb, cI, wd]) <;> rfl) | ((first | apply W2_sct | apply W2_t2); (conv => lhs; simp only [go_sem]) <;> rfl; rfl) | ((first | apply W2_scf | apply W2_f2); (conv => lhs; simp only [go_sem]) <;> rfl; rfl) | refine W2_ret ?_ | refine W2_exit ?_ | refine W2_skip ?_ | refine W2_seq ?_ | refine W2_block ?_)
            rw [show (F.map cI).set f.b.toNat [PV.i .i64 1] = (F.set f.b.toNat 1).map cI by rw [List.map_set]; rfl, show (mv.map fun n => SV.p (PV.i .i64 n)).set y.tote.toNat (SV.p (PV.i .i64 1)) = (mv.set y.tote.toNat 1).map fun n => SV.p (PV.i .i64 n) by rw [List.map_set]]
            generalize F.set f.b.toNat 1 = E4 at hE3
            generalize mv.set y.tote.toNat 1 = mv4 at hE3
            (repeat' with_reducible first | refine thn2_nrm ?_ | refine thn2_ret ?_ | refine thn2_ex ?_ | refine blk2_nrm ?_ | refine blk2_ret ?_ | refine blk2_at ?_ | (refine blk2_ex ?_ ?_; decide) | refine W2_sas ?_ | refine W2_ss ?_ | refine W2_sret ?_ | refine W2_sexit ?_ | ((first | apply W2_sra | apply W2_srda | apply W2_runa | apply W2_runda); (conv => lhs; simp only [go_sem, ibin, ishift, wd]) <;> rfl) | ((first | apply W2_srS | apply W2_runS); decide +kernel; (conv => lhs; simp only [go_sem, ibin, ishift, wd]) <;> rfl) | ((first | apply W2_sct | apply W2_t2); (conv => lhs; simp only [go_sem]) <;> rfl; rfl) | ((first | apply W2_scf | apply W2_f2); (conv => lhs; simp only [go_sem]) <;> rfl; rfl) | refine W2_ret ?_ | refine W2_exit ?_ | refine W2_skip ?_ | refine W2_seq ?_ | refine W2_block ?_)
            refine ⟨[0, 1, 2, 3, 4, 5, 6], by decide, rfl, ?_⟩
            exact ⟨l.es.length + 1 - (d + 1), _, _, by omega, ⟨d + 1, E4, mv4, by omega, by omega, hE3, rfl, rfl⟩, rfl, (by first | rfl | ((conv => lhs; simp only [go_sem, ibin, ishift]) <;> rfl))⟩
        have hde : d = m2.es.length + 1 := by omega
        subst hde
        have zd : decide (((m2.es.length + 1 : Nat) : Int) ≤ (l.es.length : Int)) = false := decide_eq_false (by omega)
        (repeat' with_reducible first | refine thn2_nrm ?_ | refine thn2_ret ?_ | refine thn2_ex ?_ | refine blk2_nrm ?_ | refine blk2_ret ?_ | refine blk2_at ?_ | (refine blk2_ex ?_ ?_; decide) | refine W2_sas ?_ | refine W2_ss ?_ | refine W2_sret ?_ | refine W2_sexit ?_ | ((first | apply W2_sra | apply W2_srda | apply W2_runa | apply W2_runda); (conv => lhs; simp only [go_sem, ibin, ishift, zd]) <;> rfl) | ((first | apply W2_srS | apply W2_runS); decide +kernel; (conv => lhs; simp only [go_sem, ibin, ishift, zd]) <;> rfl) | ((first | apply W2_sct | apply W2_t2); (conv => lhs; simp only [go_sem]) <;> rfl; rfl) | ((first | apply W2_scf | apply W2_f2); (conv => lhs; simp only [go_sem]) <;> rfl; rfl) | refine W2_ret ?_ | refine W2_exit ?_ | refine W2_skip ?_ | refine W2_seq ?_ | refine W2_block ?_)
        have hFl := hE2.len
        refine W2_loopu (fun mm u g => ∃ k : Nat, k + mm = F.length ∧ u = [(165, .i .i64 k)] ∧ g = []) F.length ⟨0, by omega, rfl, rfl⟩ rfl rfl ?_
        rintro mm u g ⟨k, hk, rfl, rfl⟩
        intro e1 h1 he1 hh1; simp only [egd, supE, hgd, supH, Nat.reduceEqDiff, Nat.reduceAdd, if_true, if_false, reduceIte] at he1 hh1; subst he1; subst hh1
        by_cases hkl : k < F.length
        · have hg2 := List.getElem?_eq_getElem hkl
          generalize F[k] = y at hg2
          obtain ⟨b1, b2⟩ := hE2.fin hF2 hg2
          obtain ⟨v0, F', rfl⟩ : ∃ v0 F', F = v0 :: F' := by
            cases F with
            | nil => simp at hkl
            | cons a b => exact ⟨a, b, rfl⟩
          have hgc : ([PV.i .i64 v0] :: F'.map cI)[k]? = some [PV.i .i64 y] := by rw [show [PV.i .i64 v0] = cI v0 from rfl, ← List.map_cons, List.getElem?_map, hg2]; rfl
          have hkl2 : k < F'.length + 1 := by simpa using hkl
          have k0 : (0 : Int) ≤ (k : Int) := by omega
          have k1 : (k : Int) < (l.ns.length : Int) := by omega
          have kn : k < l.ns.length := by omega
          have zk : decide (k < l.ns.length) = true := decide_eq_true (by omega)
          have wk := wS (show k < 9223372036854775807 by omega)
          have z0 : decide ((0 : Int) > 1) = false := by decide
          have z1 : decide ((1 : Int) > 1) = false := by decide
          (repeat' with_reducible first | refine thn2_nrm ?_ | refine thn2_ret ?_ | refine thn2_ex ?_ | refine blk2_nrm ?_ | refine blk2_ret ?_ | refine blk2_at ?_ | (refine blk2_ex ?_ ?_; decide) | refine W2_sas ?_ | refine W2_ss ?_ | refine W2_sret ?_ | refine W2_sexit ?_ | ((first | apply W2_sra | apply W2_srda | apply W2_runa | apply W2_runda); (conv => lhs; simp only [go_sem, ibin, ishift, zk]) <;> rfl) | ((first | apply W2_srS | apply W2_runS); decide +kernel; (conv => lhs; simp only [go_sem, ibin, ishift, zk]) <;> rfl) | ((first | apply W2_sct | apply W2_t2); (conv => lhs; simp only [go_sem]) <;> rfl; rfl) | ((first | apply W2_scf | apply W2_f2); (conv => lhs; simp only [go_sem]) <;> rfl; rfl) | refine W2_ret ?_ | refine W2_exit ?_ | refine W2_skip ?_ | refine W2_seq ?_ | refine W2_block ?_)
          (repeat' with_reducible first | refine thn2_nrm ?_ | refine thn2_ret ?_ | refine thn2_ex ?_ | refine blk2_nrm ?_ | refine blk2_ret ?_ | refine blk2_at ?_ | (refine blk2_ex ?_ ?_; decide) | refine W2_sas ?_ | refine W2_ss ?_ | refine W2_sret ?_ | refine W2_sexit ?_ | refine W2_skip ?_ | ((first | apply W2_sct | apply W2_t2); (conv => lhs; simp only [go_sem]) <;> rfl; rfl) | ((first | apply W2_scf | apply W2_f2); (conv => lhs; simp only [go_sem]) <;> rfl; rfl) | refine W2_block ?_ | refine W2_seq ?_ | refine W2_exit ?_)
          rcases b1 with rfl | rfl
          · rw [show decide ((0 : Int) = 1) = false from rfl] at b2
            (with_reducible first | apply W2_sregH [5] [false, false, false, false, false, false, false, false, false, false, false, false, true, false] | apply W2_regH [5] [false, false, false, false, false, false, false, false, false, false, false, false, true, false])
            · decide
            · decide
            · rfl
            ((conv => lhs; simp only [go_sem, ibin, ishift, k0, k1, kn, hkl2, hgc, cI, z0]) <;> with_reducible rfl)
            refine EH_call [1, 2, 3] (taken_spec c.toTabM m2 ok2 k) (by decide) (by simp) rfl rfl rfl (by first | rfl | (simp only [go_sem, Mi.h]; done) | (simp only [go_sem, Mi.h] <;> rfl)) ?_
            rintro v' h' ⟨rfl, rfl⟩
            rw [b2]
            unfold Mi.h
            (with_reducible apply WOH_go (by decide); ((conv => lhs; simp only [go_sem, ibin, ishift, k0, k1, kn, hkl2, hgc, cI]) <;> with_reducible rfl))
            refine EH_go ?_
            (repeat' with_reducible first | refine thn2_nrm ?_ | refine thn2_ret ?_ | refine thn2_ex ?_ | refine blk2_nrm ?_ | refine blk2_ret ?_ | refine blk2_at ?_ | (refine blk2_ex ?_ ?_; decide) | refine W2_sas ?_ | refine W2_ss ?_ | refine W2_sret ?_ | refine W2_sexit ?_ | ((first | apply W2_sra | apply W2_srda | apply W2_runa | apply W2_runda); (conv => lhs; simp only [go_sem, ibin, ishift, wk]) <;> rfl) | ((first | apply W2_srS | apply W2_runS); decide +kernel; (conv => lhs; simp only [go_sem, ibin, ishift, wk]) <;> rfl) | ((first | apply W2_sct | apply W2_t2); (conv => lhs; simp only [go_sem]) <;> rfl; rfl) | ((first | apply W2_scf | apply W2_f2); (conv => lhs; simp only [go_sem]) <;> rfl; rfl) | refine W2_ret ?_ | refine W2_exit ?_ | refine W2_skip ?_ | refine W2_seq ?_ | refine W2_block ?_)
            refine ⟨[0, 1, 2, 3, 4, 5, 6], by decide, rfl, ?_⟩
            exact ⟨(v0 :: F').length - (k + 1), _, _, by omega, ⟨k + 1, by omega, rfl, rfl⟩, rfl, (by first | rfl | ((conv => lhs; simp only [go_sem, ibin, ishift]) <;> rfl))⟩
          · rw [show decide ((1 : Int) = 1) = true from rfl] at b2
            (with_reducible first | apply W2_sregH [5] [false, false, false, false, false, false, false, false, false, false, false, false, true, false] | apply W2_regH [5] [false, false, false, false, false, false, false, false, false, false, false, false, true, false])
            · decide
            · decide
            · rfl
            ((conv => lhs; simp only [go_sem, ibin, ishift, k0, k1, kn, hkl2, hgc, cI, z1]) <;> with_reducible rfl)
            refine EH_call [1, 2, 3] (taken_spec c.toTabM m2 ok2 k) (by decide) (by simp) rfl rfl rfl (by first | rfl | (simp only [go_sem, Mi.h]; done) | (simp only [go_sem, Mi.h] <;> rfl)) ?_
            rintro v' h' ⟨rfl, rfl⟩
            rw [b2]
            unfold Mi.h
            (with_reducible apply WOH_go (by decide); ((conv => lhs; simp only [go_sem, ibin, ishift, k0, k1, kn, hkl2, hgc, cI]) <;> with_reducible rfl))
            refine EH_go ?_
            (repeat' with_reducible first | refine thn2_nrm ?_ | refine thn2_ret ?_ | refine thn2_ex ?_ | refine blk2_nrm ?_ | refine blk2_ret ?_ | refine blk2_at ?_ | (refine blk2_ex ?_ ?_; decide) | refine W2_sas ?_ | refine W2_ss ?_ | refine W2_sret ?_ | refine W2_sexit ?_ | ((first | apply W2_sra | apply W2_srda | apply W2_runa | apply W2_runda); (conv => lhs; simp only [go_sem, ibin, ishift, wk]) <;> rfl) | ((first | apply W2_srS | apply W2_runS); decide +kernel; (conv => lhs; simp only [go_sem, ibin, ishift, wk]) <;> rfl) | ((first | apply W2_sct | apply W2_t2); (conv => lhs; simp only [go_sem]) <;> rfl; rfl) | ((first | apply W2_scf | apply W2_f2); (conv => lhs; simp only [go_sem]) <;> rfl; rfl) | refine W2_ret ?_ | refine W2_exit ?_ | refine W2_skip ?_ | refine W2_seq ?_ | refine W2_block ?_)
            refine ⟨[0, 1, 2, 3, 4, 5, 6], by decide, rfl, ?_⟩
            exact ⟨(v0 :: F').length - (k + 1), _, _, by omega, ⟨k + 1, by omega, rfl, rfl⟩, rfl, (by first | rfl | ((conv => lhs; simp only [go_sem, ibin, ishift]) <;> rfl))⟩
        have zk : decide (k < l.ns.length) = false := decide_eq_false (by omega)
        (repeat' with_reducible first | refine thn2_nrm ?_ | refine thn2_ret ?_ | refine thn2_ex ?_ | refine blk2_nrm ?_ | refine blk2_ret ?_ | refine blk2_at ?_ | (refine blk2_ex ?_ ?_; decide) | refine W2_sas ?_ | refine W2_ss ?_ | refine W2_sret ?_ | refine W2_sexit ?_ | ((first | apply W2_sra | apply W2_srda | apply W2_runa | apply W2_runda); (conv => lhs; simp only [go_sem, ibin, ishift, zk, wi1]) <;> rfl) | ((first | apply W2_srS | apply W2_runS); decide +kernel; (conv => lhs; simp only [go_sem, ibin, ishift, zk, wi1]) <;> rfl) | ((first | apply W2_sct | apply W2_t2); (conv => lhs; simp only [go_sem]) <;> rfl; rfl) | ((first | apply W2_scf | apply W2_f2); (conv => lhs; simp only [go_sem]) <;> rfl; rfl) | refine W2_ret ?_ | refine W2_exit ?_ | refine W2_skip ?_ | refine W2_seq ?_ | refine W2_block ?_)
        refine ⟨[0, 1, 2, 3, 4], by decide, rfl, ?_⟩
        exact ⟨120 - (i + 1), _, _, by omega, ⟨i + 1, m2, _, by omega, hF2, hP2, rfl, rfl⟩, rfl, (by first | rfl | ((conv => lhs; simp only [go_sem, ibin, ishift]) <;> rfl))⟩
      · have d0 : decide (e = 0) = false := decide_eq_false he0
        ((with_reducible first | apply WO2_finw | apply WO2_fina); ((conv => lhs; simp only [go_sem, ibin, ishift, d0, h1, h0, hil, hgx, cNt]) <;> with_reducible rfl))
        have ok2 := hF2.ok
        have hw2 := ok2.wl
        have hal := hF2.al
        have hes := hF2.es
        have hdl := ok2.dl
        have hel := ok2.el
        have n0 : (0 : Int) ≤ (l.ns.length : Int) := by omega
        have n1 : (l.ns.length : Int) * 8 ≤ (room : Int) := by simp only [room]; omega
        have hpl := hP2.1
        (repeat' with_reducible first | refine thn2_nrm ?_ | refine thn2_ret ?_ | refine thn2_ex ?_ | refine blk2_nrm ?_ | refine blk2_ret ?_ | refine blk2_at ?_ | (refine blk2_ex ?_ ?_; decide) | refine W2_sas ?_ | refine W2_ss ?_ | refine W2_sret ?_ | refine W2_sexit ?_ | ((first | apply W2_sra | apply W2_srda | apply W2_runa | apply W2_runda); (conv => lhs; simp only [go_sem, ibin, ishift, n0, n1, Int.le_refl]) <;> rfl) | ((first | apply W2_srS | apply W2_runS); decide +kernel; (conv => lhs; simp only [go_sem, ibin, ishift, n0, n1, Int.le_refl]) <;> rfl) | ((first | apply W2_sct | apply W2_t2); (conv => lhs; simp only [go_sem]) <;> rfl; rfl) | ((first | apply W2_scf | apply W2_f2); (conv => lhs; simp only [go_sem]) <;> rfl; rfl) | refine W2_ret ?_ | refine W2_exit ?_ | refine W2_skip ?_ | refine W2_seq ?_ | refine W2_block ?_)
        rw [rep_cI]
        refine W2_loopu (fun mm u g => ∃ (t : Nat) (E : List Int), t + mm = 31 ∧ 1 ≤ t ∧ Ends1 m2 t E ∧ u = [(10, .i .i64 t)] ∧ g = [(5, .arr 1 (E.map cI))]) 30 ⟨1, _, by omega, by omega, Ends1.init hal, rfl, rfl⟩ rfl rfl ?_
        rintro mm u g ⟨t, E, ht, ht1, hE, rfl, rfl⟩
        intro e1 h1 he1 hh1; simp only [egd, supE, hgd, supH, Nat.reduceEqDiff, Nat.reduceAdd, if_true, if_false, reduceIte] at he1 hh1; subst he1; subst hh1
        by_cases ht3 : t ≤ 30
        · have z30 : decide ((t : Int) ≤ 30) = true := decide_eq_true (by omega)
          have wt := wS (show t < 9223372036854775807 by omega)
          have htw : t < m2.w.length := by omega
          have hv := List.getElem?_eq_getElem htw
          have hvr := ok2.wr _ (List.getElem_mem htw)
          generalize m2.w[t] = v at hv hvr
          have hpv := hP2.2 t v ht1 hv
          have hloc : m2.loc t = v - 1 := by rw [Mi.loc, if_neg (by simp [noTote]; omega), Int.toNat_natCast, hv]; rfl
          have t0 : (0 : Int) ≤ (t : Int) := by omega
          have t1 : (t : Int) < 31 := by omega
          have t2 : t + 1 ≤ 31 := by omega
          have t3 : t < 31 := by omega
          (repeat' with_reducible first | refine thn2_nrm ?_ | refine thn2_ret ?_ | refine thn2_ex ?_ | refine blk2_nrm ?_ | refine blk2_ret ?_ | refine blk2_at ?_ | (refine blk2_ex ?_ ?_; decide) | refine W2_sas ?_ | refine W2_ss ?_ | refine W2_sret ?_ | refine W2_sexit ?_ | ((first | apply W2_sra | apply W2_srda | apply W2_runa | apply W2_runda); (conv => lhs; simp only [go_sem, ibin, ishift, z30]) <;> rfl) | ((first | apply W2_srS | apply W2_runS); decide +kernel; (conv => lhs; simp only [go_sem, ibin, ishift, z30]) <;> rfl) | ((first | apply W2_sct | apply W2_t2); (conv => lhs; simp only [go_sem]) <;> rfl; rfl) | ((first | apply W2_scf | apply W2_f2); (conv => lhs; simp only [go_sem]) <;> rfl; rfl) | refine W2_ret ?_ | refine W2_exit ?_ | refine W2_skip ?_ | refine W2_seq ?_ | refine W2_block ?_)
          (first | (((with_reducible first | apply W2_scall | apply W2_scalld | apply W2_calla | apply W2_callda | apply run2a_sound); ((conv => lhs; simp only [go_sem, ibin, ishift]) <;> with_reducible rfl))) | ((with_reducible first | apply W2_scallS | apply W2_callS); decide +kernel; ((conv => lhs; simp only [go_sem, ibin, ishift]) <;> with_reducible rfl)))
          refine CK_call [1, 2, 3] (where_spec c.toTabM m2 ok2 t) (by decide) (by simp) rfl rfl (by first | rfl | (simp only [go_sem, Mi.h]; done) | (simp only [go_sem, Mi.h] <;> rfl)) ?_
          rintro v' h' ⟨rfl, rfl⟩
          rw [hloc]
          unfold Mi.h
          ((with_reducible first | apply WO2_finw | apply WO2_fina); ((conv => lhs; simp only [go_sem, ibin, ishift]) <;> with_reducible rfl))
          by_cases hv0 : v = 0
          · subst hv0
            have em1 : (0 : Int) - 1 = -1 := rfl
            rw [em1]
            have q1 : decide ((-1 : Int) ≥ 0) = false := by decide
            have q2 : decide ((-1 : Int) ≥ (l.ns.length : Int)) = false := decide_eq_false (by omega)
            have q3 : decide ((0 : Int) > 0) = false := by decide
            rw [q3] at hpv
            (repeat' with_reducible first | refine thn2_nrm ?_ | refine thn2_ret ?_ | refine thn2_ex ?_ | refine blk2_nrm ?_ | refine blk2_ret ?_ | refine blk2_at ?_ | (refine blk2_ex ?_ ?_; decide) | refine W2_sas ?_ | refine W2_ss ?_ | refine W2_sret ?_ | refine W2_sexit ?_ | ((first | apply W2_sra | apply W2_srda | apply W2_runa | apply W2_runda); (conv => lhs; simp only [go_sem, ibin, ishift, q1, q2, hpv, t0, t1, t2, t3, hpl, wt]) <;> rfl) | ((first | apply W2_srS | apply W2_runS); decide +kernel; (conv => lhs; simp only [go_sem, ibin, ishift, q1, q2, hpv, t0, t1, t2, t3, hpl, wt]) <;> rfl) | ((first | apply W2_sct | apply W2_t2); (conv => lhs; simp only [go_sem]) <;> rfl; rfl) | ((first | apply W2_scf | apply W2_f2); (conv => lhs; simp only [go_sem]) <;> rfl; rfl) | refine W2_ret ?_ | refine W2_exit ?_ | refine W2_skip ?_ | refine W2_seq ?_ | refine W2_block ?_)
            refine ⟨[0, 1, 2, 3, 4, 5], by decide, rfl, ?_⟩
            exact ⟨31 - (t + 1), _, _, by omega, ⟨t + 1, E, by omega, by omega, hE.no hF2 ht1 hv, rfl, rfl⟩, rfl, (by first | rfl | ((conv => lhs; simp only [go_sem, ibin, ishift]) <;> rfl))⟩
          · obtain ⟨k, rfl⟩ : ∃ k : Nat, v = (k : Int) + 1 := ⟨(v - 1).toNat, by omega⟩
            obtain ⟨b1, b2, b3, b4⟩ := hE.yes hF2 ht1 hv
            have hkE := (List.getElem?_eq_some_iff.1 b1).1
            have ek : (k : Int) + 1 - 1 = (k : Int) := by omega
            rw [ek] at hloc ⊢
            have q1 : decide ((k : Int) ≥ 0) = true := decide_eq_true (by omega)
            have q2 : decide ((k : Int) ≥ (l.ns.length : Int)) = false := decide_eq_false (by omega)
            have q3 : decide ((k : Int) + 1 > 0) = true := decide_eq_true (by omega)
            rw [q3] at hpv
            have k0 : (0 : Int) ≤ (k : Int) := by omega
            have k1 : (k : Int) < (E.length : Int) := by omega
            have k2 : (k : Int) < (l.ns.length : Int) := by omega
            have w01 : IntKind.i64.wrap 1 = 1 := rfl
            have hto : m2.tote k = t := by
              rw [Mi.tote, noNode_out (by omega)]
              simp only [Bool.false_eq_true, if_false, Int.toNat_natCast, b3]; rfl
            have qt : (decide ((t : Int) = (t : Int))) = true := by simp
            (repeat' with_reducible first | refine thn2_nrm ?_ | refine thn2_ret ?_ | refine thn2_ex ?_ | refine blk2_nrm ?_ | refine blk2_ret ?_ | refine blk2_at ?_ | (refine blk2_ex ?_ ?_; decide) | refine W2_sas ?_ | refine W2_ss ?_ | refine W2_sret ?_ | refine W2_sexit ?_ | ((first | apply W2_sra | apply W2_srda | apply W2_runa | apply W2_runda); (conv => lhs; simp only [go_sem, ibin, ishift, q1, q2, hpv, t0, t1, t2, t3, hpl, wt, k0, k1, k2, w01, b1, cI, hkE]) <;> rfl) | ((first | apply W2_srS | apply W2_runS); decide +kernel; (conv => lhs; simp only [go_sem, ibin, ishift, q1, q2, hpv, t0, t1, t2, t3, hpl, wt, k0, k1, k2, w01, b1, cI, hkE]) <;> rfl) | ((first | apply W2_sct | apply W2_t2); (conv => lhs; simp only [go_sem]) <;> rfl; rfl) | ((first | apply W2_scf | apply W2_f2); (conv => lhs; simp only [go_sem]) <;> rfl; rfl) | refine W2_ret ?_ | refine W2_exit ?_ | refine W2_skip ?_ | refine W2_seq ?_ | refine W2_block ?_)
            (first | (((with_reducible first | apply W2_scall | apply W2_scalld | apply W2_calla | apply W2_callda | apply run2a_sound); ((conv => lhs; simp only [go_sem, ibin, ishift]) <;> with_reducible rfl))) | ((with_reducible first | apply W2_scallS | apply W2_callS); decide +kernel; ((conv => lhs; simp only [go_sem, ibin, ishift]) <;> with_reducible rfl)))
            refine CK_call [1, 2, 3] (at_spec c.toTabM m2 hw2 k) (by decide) (by simp) rfl rfl (by first | rfl | (simp only [go_sem, Mi.h]; done) | (simp only [go_sem, Mi.h] <;> rfl)) ?_
            rintro v' h' ⟨rfl, rfl⟩
            rw [hto]
            unfold Mi.h
            ((with_reducible first | apply WO2_finw | apply WO2_fina); ((conv => lhs; simp only [go_sem, ibin, ishift, qt]) <;> with_reducible rfl))
            rw [show (E.map cI).set k [PV.i .i64 1] = (E.set k 1).map cI by rw [List.map_set]; rfl]
            generalize E.set k 1 = E2 at b4
            (repeat' with_reducible first | refine thn2_nrm ?_ | refine thn2_ret ?_ | refine thn2_ex ?_ | refine blk2_nrm ?_ | refine blk2_ret ?_ | refine blk2_at ?_ | (refine blk2_ex ?_ ?_; decide) | refine W2_sas ?_ | refine W2_ss ?_ | refine W2_sret ?_ | refine W2_sexit ?_ | ((first | apply W2_sra | apply W2_srda | apply W2_runa | apply W2_runda); (conv => lhs; simp only [go_sem, ibin, ishift, wt]) <;> rfl) | ((first | apply W2_srS | apply W2_runS); decide +kernel; (conv => lhs; simp only [go_sem, ibin, ishift, wt]) <;> rfl) | ((first | apply W2_sct | apply W2_t2); (conv => lhs; simp only [go_sem]) <;> rfl; rfl) | ((first | apply W2_scf | apply W2_f2); (conv => lhs; simp only [go_sem]) <;> rfl; rfl) | refine W2_ret ?_ | refine W2_exit ?_ | refine W2_skip ?_ | refine W2_seq ?_ | refine W2_block ?_)
            refine ⟨[0, 1, 2, 3, 4, 5], by decide, rfl, ?_⟩
            exact ⟨31 - (t + 1), _, _, by omega, ⟨t + 1, E2, by omega, by omega, b4, rfl, rfl⟩, rfl, (by first | rfl | ((conv => lhs; simp only [go_sem, ibin, ishift]) <;> rfl))⟩
        have ht31 : t = 31 := by omega
        subst ht31
        have hE2 := Ends2.init hF2 hE
        (repeat' with_reducible first | refine thn2_nrm ?_ | refine thn2_ret ?_ | refine thn2_ex ?_ | refine blk2_nrm ?_ | refine blk2_ret ?_ | refine blk2_at ?_ | (refine blk2_ex ?_ ?_; decide) | refine W2_sas ?_ | refine W2_ss ?_ | refine W2_sret ?_ | refine W2_sexit ?_ | ((first | apply W2_sra | apply W2_srda | apply W2_runa | apply W2_runda); (conv => lhs; simp only [go_sem, ibin, ishift]) <;> rfl) | ((first | apply W2_srS | apply W2_runS); decide +kernel; (conv => lhs; simp only [go_sem, ibin, ishift]) <;> rfl) | ((first | apply W2_sct | apply W2_t2); (conv => lhs; simp only [go_sem]) <;> rfl; rfl) | ((first | apply W2_scf | apply W2_f2); (conv => lhs; simp only [go_sem]) <;> rfl; rfl) | refine W2_ret ?_ | refine W2_exit ?_ | refine W2_skip ?_ | refine W2_seq ?_ | refine W2_block ?_)
        have hesl : m2.es.length = l.es.length := by rw [hes]
        refine W2_loopu (fun mm u g => ∃ (d : Nat) (E mv : List Int), d + mm = l.es.length + 1 ∧ 1 ≤ d ∧ Ends2 m2 d E mv ∧ u = [(13, .i .i64 d)] ∧ g = [(5, .arr 1 (E.map cI)), (6, .obj (mv.map fun n => SV.p (PV.i .i64 n)))]) l.es.length ⟨1, _, _, by omega, by omega, hE2, rfl, rfl⟩ rfl rfl ?_
        clear hE2
        rintro mm u g ⟨d, F, mv, hd, hd1, hE2, rfl, rfl⟩
        intro e1 h1 he1 hh1; simp only [egd, supE, hgd, supH, Nat.reduceEqDiff, Nat.reduceAdd, if_true, if_false, reduceIte] at he1 hh1; subst he1; subst hh1
        by_cases hdl2 : d ≤ l.es.length
        · have zd : decide ((d : Int) ≤ (l.es.length : Int)) = true := decide_eq_true (by omega)
          have wd := wS (show d < 9223372036854775807 by omega)
          have hdw : d < m2.ds.length := by omega
          have hx := List.getElem?_eq_getElem hdw
          generalize m2.ds[d] = y at hx
          have hew : d - 1 < m2.es.length := by omega
          have he := List.getElem?_eq_getElem hew
          generalize m2.es[d - 1] = f at he
          have hnd := noDev_out (m := m2) (d := (d : Int)) (by omega)
          (repeat' with_reducible first | refine thn2_nrm ?_ | refine thn2_ret ?_ | refine thn2_ex ?_ | refine blk2_nrm ?_ | refine blk2_ret ?_ | refine blk2_at ?_ | (refine blk2_ex ?_ ?_; decide) | refine W2_sas ?_ | refine W2_ss ?_ | refine W2_sret ?_ | refine W2_sexit ?_ | ((first | apply W2_sra | apply W2_srda | apply W2_runa | apply W2_runda); (conv => lhs; simp only [go_sem, ibin, ishift, zd]) <;> rfl) | ((first | apply W2_srS | apply W2_runS); decide +kernel; (conv => lhs; simp only [go_sem, ibin, ishift, zd]) <;> rfl) | ((first | apply W2_sct | apply W2_t2); (conv => lhs; simp only [go_sem]) <;> rfl; rfl) | ((first | apply W2_scf | apply W2_f2); (conv => lhs; simp only [go_sem]) <;> rfl; rfl) | refine W2_ret ?_ | refine W2_exit ?_ | refine W2_skip ?_ | refine W2_seq ?_ | refine W2_block ?_)
          (first | (((with_reducible first | apply W2_scall | apply W2_scalld | apply W2_calla | apply W2_callda | apply run2a_sound); ((conv => lhs; simp only [go_sem, ibin, ishift]) <;> with_reducible rfl))) | ((with_reducible first | apply W2_scallS | apply W2_callS); decide +kernel; ((conv => lhs; simp only [go_sem, ibin, ishift]) <;> with_reducible rfl)))
          refine CK_call [1, 2, 3] (told_spec c.toTabM m2 hw2 d) (by decide) (by simp) rfl rfl (by first | rfl | (simp only [go_sem, Mi.h]; done) | (simp only [go_sem, Mi.h] <;> rfl)) ?_
          rintro v' h' ⟨rfl, rfl⟩
          by_cases hy0 : y.tote = 0
          · have htd : m2.told d = (0, 0, false) := by
              rw [Mi.told, hnd, Int.toNat_natCast, hx]
              simp only [Bool.false_eq_true, if_false, hy0, if_true]
            rw [htd]
            unfold Mi.h
            have hE3 := hE2.skip hx hy0
            ((with_reducible first | apply WO2_finw | apply WO2_fina); ((conv => lhs; simp only [go_sem, ibin, ishift]) <;> with_reducible rfl))
            (repeat' with_reducible first | refine thn2_nrm ?_ | refine thn2_ret ?_ | refine thn2_ex ?_ | refine blk2_nrm ?_ | refine blk2_ret ?_ | refine blk2_at ?_ | (refine blk2_ex ?_ ?_; decide) | refine W2_sas ?_ | refine W2_ss ?_ | refine W2_sret ?_ | refine W2_sexit ?_ | ((first | apply W2_sra | apply W2_srda | apply W2_runa | apply W2_runda); (conv => lhs; simp only [go_sem, ibin, ishift, wd]) <;> rfl) | ((first | apply W2_srS | apply W2_runS); decide +kernel; (conv => lhs; simp only [go_sem, ibin, ishift, wd]) <;> rfl) | ((first | apply W2_sct | apply W2_t2); (conv => lhs; simp only [go_sem]) <;> rfl; rfl) | ((first | apply W2_scf | apply W2_f2); (conv => lhs; simp only [go_sem]) <;> rfl; rfl) | refine W2_ret ?_ | refine W2_exit ?_ | refine W2_skip ?_ | refine W2_seq ?_ | refine W2_block ?_)
            refine ⟨[0, 1, 2, 3, 4, 5, 6], by decide, rfl, ?_⟩
            exact ⟨l.es.length + 1 - (d + 1), _, _, by omega, ⟨d + 1, F, mv, by omega, by omega, hE3, rfl, rfl⟩, rfl, (by first | rfl | ((conv => lhs; simp only [go_sem, ibin, ishift]) <;> rfl))⟩
          · have htd : m2.told d = (y.tote, y.seq, true) := by
              rw [Mi.told, hnd, Int.toNat_natCast, hx]
              simp only [Bool.false_eq_true, if_false, hy0]
            rw [htd]
            unfold Mi.h
            obtain ⟨t1, t2, hloc, hb0, hb1, hEb, hMb, hE3⟩ := hE2.step hF2 hd1 hx hy0 he
            have hml := hE2.mlen
            have hel2 := hE2.len
            rw [hes] at he
            have hi : ((d : Int) - 1).toNat = d - 1 := by omega
            rw [← hi] at he
            have wd1 : IntKind.i64.wrap ((d : Int) - 1) = (d : Int) - 1 := wi _ (by omega) (by omega)
            have r0 : (0 : Int) ≤ (d : Int) - 1 := by omega
            have r1 : (d : Int) - 1 < (l.es.length : Int) := by omega
            have r2 : ((d : Int) - 1).toNat < l.es.length := by omega
            have s0 : (0 : Int) ≤ y.tote := by omega
            have s1 : y.tote < 31 := by omega
            have s2 : y.tote.toNat < 31 := by omega
            have s3 : y.tote.toNat + 1 ≤ 31 := by omega
            have z1 : decide (y.tote < 1) = false := decide_eq_false (by omega)
            have z2 : decide (y.tote > 30) = false := decide_eq_false (by omega)
            have z3 : decide (f.a = f.a) = true := by simp
            have z4 : decide ((0 : Int) > 0) = false := by decide
            have w01 : IntKind.i64.wrap 1 = 1 := rfl
            have u0 : f.b < (l.ns.length : Int) := by omega
            have u1 : f.b.toNat < F.length := by omega
            have u2 : f.b < (F.length : Int) := by omega
            ((with_reducible first | apply WO2_finw | apply WO2_fina); ((conv => lhs; simp only [go_sem, ibin, ishift]) <;> with_reducible rfl))
            (repeat' with_reducible first | refine thn2_nrm ?_ | refine thn2_ret ?_ | refine thn2_ex ?_ | refine blk2_nrm ?_ | refine blk2_ret ?_ | refine blk2_at ?_ | (refine blk2_ex ?_ ?_; decide) | refine W2_sas ?_ | refine W2_ss ?_ | refine W2_sret ?_ | refine W2_sexit ?_ | ((first | apply W2_sra | apply W2_srda | apply W2_runa | apply W2_runda); (conv => lhs; simp only [go_sem, ibin, ishift]) <;> rfl) | ((first | apply W2_srS | apply W2_runS); decide +kernel; (conv => lhs; simp only [go_sem, ibin, ishift]) <;> rfl) | ((first | apply W2_sct | apply W2_t2); (conv => lhs; simp only [go_sem]) <;> rfl; rfl) | ((first | apply W2_scf | apply W2_f2); (conv => lhs; simp only [go_sem]) <;> rfl; rfl) | refine W2_ret ?_ | refine W2_exit ?_ | refine W2_skip ?_ | refine W2_seq ?_ | refine W2_block ?_)
            (repeat' with_reducible first | refine thn2_nrm ?_ | refine thn2_ret ?_ | refine thn2_ex ?_ | refine blk2_nrm ?_ | refine blk2_ret ?_ | refine blk2_at ?_ | (refine blk2_ex ?_ ?_; decide) | refine W2_sas ?_ | refine W2_ss ?_ | refine W2_sret ?_ | refine W2_sexit ?_ | refine W2_skip ?_ | ((first | apply W2_sct | apply W2_t2); (conv => lhs; simp only [go_sem]) <;> rfl; rfl) | ((first | apply W2_scf | apply W2_f2); (conv => lhs; simp only [go_sem]) <;> rfl; rfl) | refine W2_block ?_ | refine W2_seq ?_ | refine W2_exit ?_)
            (with_reducible first | apply W2_sregH [0, 6] [false, false, false, false, false, false, false, false, false, false, false, true, false, false, false, false, true, false] | apply W2_regH [0, 6] [false, false, false, false, false, false, false, false, false, false, false, true, false, false, false, false, true, false])
            · decide
            · decide
            · rfl
            ((conv => lhs; simp only [go_sem, ibin, ishift, z1, z2]) <;> with_reducible rfl)
            refine EH_call [1, 2, 3] (where_spec c.toTabM m2 ok2 y.tote) (by decide) (by simp) rfl rfl rfl (by first | rfl | (simp only [go_sem, Mi.h]; done) | (simp only [go_sem, Mi.h] <;> rfl)) ?_
            rintro v' h' ⟨rfl, rfl⟩
            rw [hloc]
            unfold Mi.h
            (with_reducible apply WOH_go (by decide); ((conv => lhs; simp only [go_sem, ibin, ishift, wd1, r0, r1, r2, he, cD, z3, s0, s1, s2, s3, hMb, hml, z4]) <;> with_reducible rfl))
            refine EH_go ?_
            (repeat' with_reducible first | refine thn2_nrm ?_ | refine thn2_ret ?_ | refine thn2_ex ?_ | refine blk2_nrm ?_ | refine blk2_ret ?_ | refine blk2_at ?_ | (refine blk2_ex ?_ ?_; decide) | refine W2_sas ?_ | refine W2_ss ?_ | refine W2_sret ?_ | refine W2_sexit ?_ | ((first | apply W2_sra | apply W2_srda | apply W2_runa | apply W2_runda); (conv => lhs; simp only [go_sem, ibin, ishift, s0, s1, s2, s3, hMb, hml, wd1, r0, r1, r2, he, cD, w01, hb0, u0, u1, u2, hEb, cI, wd]) <;> rfl) | ((first | apply W2_srS | apply W2_runS); decide +kernel; (conv => lhs; simp only [go_sem, ibin, ishift, s0, s1, s2, s3, hMb, hml, wd1, r0, r1, r2, he, cD, w01, hb0, u0, u1, u2, hEb, cI, wd]) <;> rfl) | ((first | apply W2_sct | apply W2_t2); (conv => lhs; simp only [go_sem]) <;> rfl; rfl) | ((first | apply W2_scf | apply W2_f2); (conv => lhs; simp only [go_sem]) <;> rfl; rfl) | refine W2_ret ?_ | refine W2_exit ?_ | refine W2_skip ?_ | refine W2_seq ?_ | refine W2_block ?_)
            rw [show (F.map cI).set f.b.toNat [PV.i .i64 1] = (F.set f.b.toNat 1).map cI by rw [List.map_set]; rfl, show (mv.map fun n => SV.p (PV.i .i64 n)).set y.tote.toNat (SV.p (PV.i .i64 1)) = (mv.set y.tote.toNat 1).map fun n => SV.p (PV.i .i64 n) by rw [List.map_set]]
            generalize F.set f.b.toNat 1 = E4 at hE3
            generalize mv.set y.tote.toNat 1 = mv4 at hE3
            (repeat' with_reducible first | refine thn2_nrm ?_ | refine thn2_ret ?_ | refine thn2_ex ?_ | refine blk2_nrm ?_ | refine blk2_ret ?_ | refine blk2_at ?_ | (refine blk2_ex ?_ ?_; decide) | refine W2_sas ?_ | refine W2_ss ?_ | refine W2_sret ?_ | refine W2_sexit ?_ | ((first | apply W2_sra | apply W2_srda | apply W2_runa | apply W2_runda); (conv => lhs; simp only [go_sem, ibin, ishift, wd]) <;> rfl) | ((first | apply W2_srS | apply W2_runS); decide +kernel; (conv => lhs; simp only [go_sem, ibin, ishift, wd]) <;> rfl) | ((first | apply W2_sct | apply W2_t2); (conv => lhs; simp only [go_sem]) <;> rfl; rfl) | ((first | apply W2_scf | apply W2_f2); (conv => lhs; simp only [go_sem]) <;> rfl; rfl) | refine W2_ret ?_ | refine W2_exit ?_ | refine W2_skip ?_ | refine W2_seq ?_ | refine W2_block ?_)
            refine ⟨[0, 1, 2, 3, 4, 5, 6], by decide, rfl, ?_⟩
            exact ⟨l.es.length + 1 - (d + 1), _, _, by omega, ⟨d + 1, E4, mv4, by omega, by omega, hE3, rfl, rfl⟩, rfl, (by first | rfl | ((conv => lhs; simp only [go_sem, ibin, ishift]) <;> rfl))⟩
        have hde : d = m2.es.length + 1 := by omega
        subst hde
        have zd : decide (((m2.es.length + 1 : Nat) : Int) ≤ (l.es.length : Int)) = false := decide_eq_false (by omega)
        (repeat' with_reducible first | refine thn2_nrm ?_ | refine thn2_ret ?_ | refine thn2_ex ?_ | refine blk2_nrm ?_ | refine blk2_ret ?_ | refine blk2_at ?_ | (refine blk2_ex ?_ ?_; decide) | refine W2_sas ?_ | refine W2_ss ?_ | refine W2_sret ?_ | refine W2_sexit ?_ | ((first | apply W2_sra | apply W2_srda | apply W2_runa | apply W2_runda); (conv => lhs; simp only [go_sem, ibin, ishift, zd]) <;> rfl) | ((first | apply W2_srS | apply W2_runS); decide +kernel; (conv => lhs; simp only [go_sem, ibin, ishift, zd]) <;> rfl) | ((first | apply W2_sct | apply W2_t2); (conv => lhs; simp only [go_sem]) <;> rfl; rfl) | ((first | apply W2_scf | apply W2_f2); (conv => lhs; simp only [go_sem]) <;> rfl; rfl) | refine W2_ret ?_ | refine W2_exit ?_ | refine W2_skip ?_ | refine W2_seq ?_ | refine W2_block ?_)
        have hFl := hE2.len
        refine W2_loopu (fun mm u g => ∃ k : Nat, k + mm = F.length ∧ u = [(165, .i .i64 k)] ∧ g = []) F.length ⟨0, by omega, rfl, rfl⟩ rfl rfl ?_
        rintro mm u g ⟨k, hk, rfl, rfl⟩
        intro e1 h1 he1 hh1; simp only [egd, supE, hgd, supH, Nat.reduceEqDiff, Nat.reduceAdd, if_true, if_false, reduceIte] at he1 hh1; subst he1; subst hh1
        by_cases hkl : k < F.length
        · have hg2 := List.getElem?_eq_getElem hkl
          generalize F[k] = y at hg2
          obtain ⟨b1, b2⟩ := hE2.fin hF2 hg2
          obtain ⟨v0, F', rfl⟩ : ∃ v0 F', F = v0 :: F' := by
            cases F with
            | nil => simp at hkl
            | cons a b => exact ⟨a, b, rfl⟩
          have hgc : ([PV.i .i64 v0] :: F'.map cI)[k]? = some [PV.i .i64 y] := by rw [show [PV.i .i64 v0] = cI v0 from rfl, ← List.map_cons, List.getElem?_map, hg2]; rfl
          have hkl2 : k < F'.length + 1 := by simpa using hkl
          have k0 : (0 : Int) ≤ (k : Int) := by omega
          have k1 : (k : Int) < (l.ns.length : Int) := by omega
          have kn : k < l.ns.length := by omega
          have zk : decide (k < l.ns.length) = true := decide_eq_true (by omega)
          have wk := wS (show k < 9223372036854775807 by omega)
          have z0 : decide ((0 : Int) > 1) = false := by decide
          have z1 : decide ((1 : Int) > 1) = false := by decide
          (repeat' with_reducible first | refine thn2_nrm ?_ | refine thn2_ret ?_ | refine thn2_ex ?_ | refine blk2_nrm ?_ | refine blk2_ret ?_ | refine blk2_at ?_ | (refine blk2_ex ?_ ?_; decide) | refine W2_sas ?_ | refine W2_ss ?_ | refine W2_sret ?_ | refine W2_sexit ?_ | ((first | apply W2_sra | apply W2_srda | apply W2_runa | apply W2_runda); (conv => lhs; simp only [go_sem, ibin, ishift, zk]) <;> rfl) | ((first | apply W2_srS | apply W2_runS); decide +kernel; (conv => lhs; simp only [go_sem, ibin, ishift, zk]) <;> rfl) | ((first | apply W2_sct | apply W2_t2); (conv => lhs; simp only [go_sem]) <;> rfl; rfl) | ((first | apply W2_scf | apply W2_f2); (conv => lhs; simp only [go_sem]) <;> rfl; rfl) | refine W2_ret ?_ | refine W2_exit ?_ | refine W2_skip ?_ | refine W2_seq ?_ | refine W2_block ?_)
          (repeat' with_reducible first | refine thn2_nrm ?_ | refine thn2_ret ?_ | refine thn2_ex ?_ | refine blk2_nrm ?_ | refine blk2_ret ?_ | refine blk2_at ?_ | (refine blk2_ex ?_ ?_; decide) | refine W2_sas ?_ | refine W2_ss ?_ | refine W2_sret ?_ | refine W2_sexit ?_ | refine W2_skip ?_ | ((first | apply W2_sct | apply W2_t2); (conv => lhs; simp only [go_sem]) <;> rfl; rfl) | ((first | apply W2_scf | apply W2_f2); (conv => lhs; simp only [go_sem]) <;> rfl; rfl) | refine W2_block ?_ | refine W2_seq ?_ | refine W2_exit ?_)
          rcases b1 with rfl | rfl
          · rw [show decide ((0 : Int) = 1) = false from rfl] at b2
            (with_reducible first | apply W2_sregH [5] [false, false, false, false, false, false, false, false, false, false, false, false, true, false] | apply W2_regH [5] [false, false, false, false, false, false, false, false, false, false, false, false, true, false])
            · decide
            · decide
            · rfl
            ((conv => lhs; simp only [go_sem, ibin, ishift, k0, k1, kn, hkl2, hgc, cI, z0]) <;> with_reducible rfl)
            refine EH_call [1, 2, 3] (taken_spec c.toTabM m2 ok2 k) (by decide) (by simp) rfl rfl rfl (by first | rfl | (simp only [go_sem, Mi.h]; done) | (simp only [go_sem, Mi.h] <;> rfl)) ?_
            rintro v' h' ⟨rfl, rfl⟩
            rw [b2]
            unfold Mi.h
            (with_reducible apply WOH_go (by decide); ((conv => lhs; simp only [go_sem, ibin, ishift, k0, k1, kn, hkl2, hgc, cI]) <;> with_reducible rfl))
            refine EH_go ?_
            (repeat' with_reducible first | refine thn2_nrm ?_ | refine thn2_ret ?_ | refine thn2_ex ?_ | refine blk2_nrm ?_ | refine blk2_ret ?_ | refine blk2_at ?_ | (refine blk2_ex ?_ ?_; decide) | refine W2_sas ?_ | refine W2_ss ?_ | refine W2_sret ?_ | refine W2_sexit ?_ | ((first | apply W2_sra | apply W2_srda | apply W2_runa | apply W2_runda); (conv => lhs; simp only [go_sem, ibin, ishift, wk]) <;> rfl) | ((first | apply W2_srS | apply W2_runS); decide +kernel; (conv => lhs; simp only [go_sem, ibin, ishift, wk]) <;> rfl) | ((first | apply W2_sct | apply W2_t2); (conv => lhs; simp only [go_sem]) <;> rfl; rfl) | ((first | apply W2_scf | apply W2_f2); (conv => lhs; simp only [go_sem]) <;> rfl; rfl) | refine W2_ret ?_ | refine W2_exit ?_ | refine W2_skip ?_ | refine W2_seq ?_ | refine W2_block ?_)
            refine ⟨[0, 1, 2, 3, 4, 5, 6], by decide, rfl, ?_⟩
            exact ⟨(v0 :: F').length - (k + 1), _, _, by omega, ⟨k + 1, by omega, rfl, rfl⟩, rfl, (by first | rfl | ((conv => lhs; simp only [go_sem, ibin, ishift]) <;> rfl))⟩
          · rw [show decide ((1 : Int) = 1) = true from rfl] at b2
            (with_reducible first | apply W2_sregH [5] [false, false, false, false, false, false, false, false, false, false, false, false, true, false] | apply W2_regH [5] [false, false, false, false, false, false, false, false, false, false, false, false, true, false])
            · decide
            · decide
            · rfl
            ((conv => lhs; simp only [go_sem, ibin, ishift, k0, k1, kn, hkl2, hgc, cI, z1]) <;> with_reducible rfl)
            refine EH_call [1, 2, 3] (taken_spec c.toTabM m2 ok2 k) (by decide) (by simp) rfl rfl rfl (by first | rfl | (simp only [go_sem, Mi.h]; done) | (simp only [go_sem, Mi.h] <;> rfl)) ?_
            rintro v' h' ⟨rfl, rfl⟩
            rw [b2]
            unfold Mi.h
            (with_reducible apply WOH_go (by decide); ((conv => lhs; simp only [go_sem, ibin, ishift, k0, k1, kn, hkl2, hgc, cI]) <;> with_reducible rfl))
            refine EH_go ?_
            (repeat' with_reducible first | refine thn2_nrm ?_ | refine thn2_ret ?_ | refine thn2_ex ?_ | refine blk2_nrm ?_ | refine blk2_ret ?_ | refine blk2_at ?_ | (refine blk2_ex ?_ ?_; decide) | refine W2_sas ?_ | refine W2_ss ?_ | refine W2_sret ?_ | refine W2_sexit ?_ | ((first | apply W2_sra | apply W2_srda | apply W2_runa | apply W2_runda); (conv => lhs; simp only [go_sem, ibin, ishift, wk]) <;> rfl) | ((first | apply W2_srS | apply W2_runS); decide +kernel; (conv => lhs; simp only [go_sem, ibin, ishift, wk]) <;> rfl) | ((first | apply W2_sct | apply W2_t2); (conv => lhs; simp only [go_sem]) <;> rfl; rfl) | ((first | apply W2_scf | apply W2_f2); (conv => lhs; simp only [go_sem]) <;> rfl; rfl) | refine W2_ret ?_ | refine W2_exit ?_ | refine W2_skip ?_ | refine W2_seq ?_ | refine W2_block ?_)
            refine ⟨[0, 1, 2, 3, 4, 5, 6], by decide, rfl, ?_⟩
            exact ⟨(v0 :: F').length - (k + 1), _, _, by omega, ⟨k + 1, by omega, rfl, rfl⟩, rfl, (by first | rfl | ((conv => lhs; simp only [go_sem, ibin, ishift]) <;> rfl))⟩
        have zk : decide (k < l.ns.length) = false := decide_eq_false (by omega)
        (repeat' with_reducible first | refine thn2_nrm ?_ | refine thn2_ret ?_ | refine thn2_ex ?_ | refine blk2_nrm ?_ | refine blk2_ret ?_ | refine blk2_at ?_ | (refine blk2_ex ?_ ?_; decide) | refine W2_sas ?_ | refine W2_ss ?_ | refine W2_sret ?_ | refine W2_sexit ?_ | ((first | apply W2_sra | apply W2_srda | apply W2_runa | apply W2_runda); (conv => lhs; simp only [go_sem, ibin, ishift, zk, wi1]) <;> rfl) | ((first | apply W2_srS | apply W2_runS); decide +kernel; (conv => lhs; simp only [go_sem, ibin, ishift, zk, wi1]) <;> rfl) | ((first | apply W2_sct | apply W2_t2); (conv => lhs; simp only [go_sem]) <;> rfl; rfl) | ((first | apply W2_scf | apply W2_f2); (conv => lhs; simp only [go_sem]) <;> rfl; rfl) | refine W2_ret ?_ | refine W2_exit ?_ | refine W2_skip ?_ | refine W2_seq ?_ | refine W2_block ?_)
        refine ⟨[0, 1, 2, 3, 4], by decide, rfl, ?_⟩
        exact ⟨120 - (i + 1), _, _, by omega, ⟨i + 1, m2, _, by omega, hF2, hP2, rfl, rfl⟩, rfl, (by first | rfl | ((conv => lhs; simp only [go_sem, ibin, ishift]) <;> rfl))⟩
end Go.Proofs.Ytjijhkmimjolhaa.Ab
