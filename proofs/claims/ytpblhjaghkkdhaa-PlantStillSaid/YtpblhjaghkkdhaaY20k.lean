/- Chapter 20: PlantStill. -/
import Derived.Test.YtpblhjaghkkdhaaY20j
namespace Go.Proofs.Ytpblhjaghkkdhaa.Ab
open Go
set_option linter.unusedVariables false
set_option linter.unusedSimpArgs false
variable {T : AT}
structure StillI (lay : Lay) (i : Nat) (p : Pl) (was : List Int) : Prop where
  st : Still p was
  ok : p.Ok
  es : p.es = lay.es
  al : p.at_.length = lay.ns.length
  m0 : 0 ≤ p.mv
  m1 : p.mv ≤ i
theorem StillI.set {lay : Lay} {i : Nat} {p : Pl} {was : List Int} (h : StillI lay i p was) (a : Int) (b : Bool) (k : Int) : StillI lay i (p.set a b k).1 was := by
  obtain ⟨h1, h2, h3, _⟩ := p.set_es a b k
  exact ⟨h.st.same h2, Pl.set_ok h.ok a b k, by rw [h1, h.es], by rw [h2, h.al], by rw [h3]; exact h.m0, by rw [h3]; exact h.m1⟩
theorem Pl.put_no {p : Pl} {t n : Int} (h : (p.put t n).2 ≠ 0) : (p.put t n).1 = p := by
  unfold Pl.put at h ⊢
  repeat' split
  all_goals first | rfl | skip
  simp_all
set_option maxHeartbeats 4000000 in
theorem plantStill_law (c : TabA T) (hT : T i_stillagelaw20_PlantStill = some (.fn c_stillagelaw20_PlantStill)) (l : Lay) (hs : ∀ x ∈ l.ns, x.name.length ≤ 9223372036854775807) (s : List Op20) (ht : ∀ o ∈ s, o.t.Ok) :
    Ret2 T 0 i_stillagelaw20_PlantStill [l.v, .fz 8 (s.map cO)] [] (fun v h' => v = .b true) := by
  refine Ret2_fnv hT rfl rfl ?_
  have hv : l.v = .agg [.fz 3 (l.ns.map cN), .fz 2 (l.es.map cD)] := rfl
  rw [hv]
  (repeat' with_reducible first | refine thn2_nrm ?_ | refine thn2_ret ?_ | refine thn2_ex ?_ | refine blk2_nrm ?_ | refine blk2_ret ?_ | refine blk2_at ?_ | (refine blk2_ex ?_ ?_; decide) | refine W2_sas ?_ | refine W2_ss ?_ | refine W2_sret ?_ | refine W2_sexit ?_ | ((first | apply W2_sra | apply W2_srda | apply W2_runa | apply W2_runda); (conv => lhs; simp only [go_sem, ibin, ishift]) <;> rfl) | ((first | apply W2_srS | apply W2_runS); decide +kernel; (conv => lhs; simp only [go_sem, ibin, ishift]) <;> rfl) | ((first | apply W2_sct | apply W2_t2); (conv => lhs; simp only [go_sem]) <;> rfl; rfl) | ((first | apply W2_scf | apply W2_f2); (conv => lhs; simp only [go_sem]) <;> rfl; rfl) | refine W2_ret ?_ | refine W2_exit ?_ | refine W2_skip ?_ | refine W2_seq ?_ | refine W2_block ?_)
  (first | (((with_reducible first | apply W2_scall | apply W2_scalld | apply W2_calla | apply W2_callda | apply run2a_sound); ((conv => lhs; simp only [go_sem, ibin, ishift]) <;> with_reducible rfl))) | ((with_reducible first | apply W2_scallS | apply W2_callS); decide +kernel; ((conv => lhs; simp only [go_sem, ibin, ishift]) <;> with_reducible rfl)))
  refine CK_pure (awake_spec c) rfl ?_
  rintro v h' ⟨rfl, rfl⟩
  (first | (((with_reducible first | apply W2_scall | apply W2_scalld | apply W2_calla | apply W2_callda | apply run2a_sound); ((conv => lhs; simp only [go_sem, ibin, ishift]) <;> with_reducible rfl))) | ((with_reducible first | apply W2_scallS | apply W2_callS); decide +kernel; ((conv => lhs; simp only [go_sem, ibin, ishift]) <;> with_reducible rfl)))
  refine CK_pure (few_spec c l) (by first | rfl | (simp only [go_sem, Lay.v]; done) | (simp only [go_sem, Lay.v] <;> rfl)) ?_
  rintro v h' ⟨rfl, rfl⟩
  by_cases hf : l.ns.length ≤ 60 ∧ l.es.length ≤ 200
  rotate_left
  · rw [decide_eq_false hf]
    ((with_reducible first | apply WO2_finw | apply WO2_fina); ((conv => lhs; simp only [go_sem, ibin, ishift]) <;> with_reducible rfl))
    (repeat' with_reducible first | refine thn2_nrm ?_ | refine thn2_ret ?_ | refine thn2_ex ?_ | refine blk2_nrm ?_ | refine blk2_ret ?_ | refine blk2_at ?_ | (refine blk2_ex ?_ ?_; decide) | refine W2_sas ?_ | refine W2_ss ?_ | refine W2_sret ?_ | refine W2_sexit ?_ | ((first | apply W2_sra | apply W2_srda | apply W2_runa | apply W2_runda); (conv => lhs; simp only [go_sem, ibin, ishift]) <;> rfl) | ((first | apply W2_srS | apply W2_runS); decide +kernel; (conv => lhs; simp only [go_sem, ibin, ishift]) <;> rfl) | ((first | apply W2_sct | apply W2_t2); (conv => lhs; simp only [go_sem]) <;> rfl; rfl) | ((first | apply W2_scf | apply W2_f2); (conv => lhs; simp only [go_sem]) <;> rfl; rfl) | refine W2_ret ?_ | refine W2_exit ?_ | refine W2_skip ?_ | refine W2_seq ?_ | refine W2_block ?_)
    (first | (((with_reducible first | apply W2_scall | apply W2_scalld | apply W2_calla | apply W2_callda | apply run2a_sound); ((conv => lhs; simp only [go_sem, ibin, ishift]) <;> with_reducible rfl))) | ((with_reducible first | apply W2_scallS | apply W2_callS); decide +kernel; ((conv => lhs; simp only [go_sem, ibin, ishift]) <;> with_reducible rfl)))
    refine CK_pure (awake_spec c) rfl ?_
    rintro v h' ⟨rfl, rfl⟩
    ((with_reducible first | apply WO2_finw | apply WO2_fina); ((conv => lhs; simp only [go_sem, ibin, ishift]) <;> with_reducible rfl))
    (repeat' with_reducible first | refine thn2_nrm ?_ | refine thn2_ret ?_ | refine thn2_ex ?_ | refine blk2_nrm ?_ | refine blk2_ret ?_ | refine blk2_at ?_ | (refine blk2_ex ?_ ?_; decide) | refine W2_sas ?_ | refine W2_ss ?_ | refine W2_sret ?_ | refine W2_sexit ?_ | ((first | apply W2_sra | apply W2_srda | apply W2_runa | apply W2_runda); (conv => lhs; simp only [go_sem, ibin, ishift]) <;> rfl) | ((first | apply W2_srS | apply W2_runS); decide +kernel; (conv => lhs; simp only [go_sem, ibin, ishift]) <;> rfl) | ((first | apply W2_sct | apply W2_t2); (conv => lhs; simp only [go_sem]) <;> rfl; rfl) | ((first | apply W2_scf | apply W2_f2); (conv => lhs; simp only [go_sem]) <;> rfl; rfl) | refine W2_ret ?_ | refine W2_exit ?_ | refine W2_skip ?_ | refine W2_seq ?_ | refine W2_block ?_)
    refine ⟨by first | exact .inr rfl | exact .inl rfl, _, _, (by (conv => lhs; simp only [go_sem, ibin, ishift]) <;> with_reducible rfl), (by (conv => lhs; simp only [go_sem, ibin, ishift]) <;> with_reducible rfl), ?_⟩
    refine ⟨[], by decide, rfl, ?_⟩
    rfl
  rw [decide_eq_true hf]
  ((with_reducible first | apply WO2_finw | apply WO2_fina); ((conv => lhs; simp only [go_sem, ibin, ishift]) <;> with_reducible rfl))
  (repeat' with_reducible first | refine thn2_nrm ?_ | refine thn2_ret ?_ | refine thn2_ex ?_ | refine blk2_nrm ?_ | refine blk2_ret ?_ | refine blk2_at ?_ | (refine blk2_ex ?_ ?_; decide) | refine W2_sas ?_ | refine W2_ss ?_ | refine W2_sret ?_ | refine W2_sexit ?_ | ((first | apply W2_sra | apply W2_srda | apply W2_runa | apply W2_runda); (conv => lhs; simp only [go_sem, ibin, ishift]) <;> rfl) | ((first | apply W2_srS | apply W2_runS); decide +kernel; (conv => lhs; simp only [go_sem, ibin, ishift]) <;> rfl) | ((first | apply W2_sct | apply W2_t2); (conv => lhs; simp only [go_sem]) <;> rfl; rfl) | ((first | apply W2_scf | apply W2_f2); (conv => lhs; simp only [go_sem]) <;> rfl; rfl) | refine W2_ret ?_ | refine W2_exit ?_ | refine W2_skip ?_ | refine W2_seq ?_ | refine W2_block ?_)
  (first | (((with_reducible first | apply W2_scall | apply W2_scalld | apply W2_calla | apply W2_callda | apply run2a_sound); ((conv => lhs; simp only [go_sem, ibin, ishift]) <;> with_reducible rfl))) | ((with_reducible first | apply W2_scallS | apply W2_callS); decide +kernel; ((conv => lhs; simp only [go_sem, ibin, ishift]) <;> with_reducible rfl)))
  refine CK_pure (new_spec c.toTabP l ⟨by omega, by omega⟩ hs) (by first | rfl | (simp only [go_sem, Lay.v]; done) | (simp only [go_sem, Lay.v] <;> rfl)) ?_
  rintro v h' ⟨hh0, hh1⟩
  cases hg : l.good with
  | false =>
    obtain ⟨rfl, rfl⟩ := hh0 hg
    ((with_reducible first | apply WO2_finw | apply WO2_fina); ((conv => lhs; simp only [go_sem, ibin, ishift]) <;> with_reducible rfl))
    (repeat' with_reducible first | refine thn2_nrm ?_ | refine thn2_ret ?_ | refine thn2_ex ?_ | refine blk2_nrm ?_ | refine blk2_ret ?_ | refine blk2_at ?_ | (refine blk2_ex ?_ ?_; decide) | refine W2_sas ?_ | refine W2_ss ?_ | refine W2_sret ?_ | refine W2_sexit ?_ | ((first | apply W2_sra | apply W2_srda | apply W2_runa | apply W2_runda); (conv => lhs; simp only [go_sem, ibin, ishift]) <;> rfl) | ((first | apply W2_srS | apply W2_runS); decide +kernel; (conv => lhs; simp only [go_sem, ibin, ishift]) <;> rfl) | ((first | apply W2_sct | apply W2_t2); (conv => lhs; simp only [go_sem]) <;> rfl; rfl) | ((first | apply W2_scf | apply W2_f2); (conv => lhs; simp only [go_sem]) <;> rfl; rfl) | refine W2_ret ?_ | refine W2_exit ?_ | refine W2_skip ?_ | refine W2_seq ?_ | refine W2_block ?_)
    refine ⟨by first | exact .inr rfl | exact .inl rfl, _, _, (by (conv => lhs; simp only [go_sem, ibin, ishift]) <;> with_reducible rfl), (by (conv => lhs; simp only [go_sem, ibin, ishift]) <;> with_reducible rfl), ?_⟩
    refine ⟨[], by decide, rfl, ?_⟩
    rfl
  | true =>
    obtain ⟨rfl, rfl⟩ := hh1 hg
    have hk0 := Pl.new_ok hg
    have he0 : (Pl.new l).es = l.es := rfl
    have hl0 : (Pl.new l).at_.length = l.ns.length := by simp [Pl.new]
    have hd0 : ∀ (j : Nat) (d : Dv), (Pl.new l).ds[j]? = some d → d = ⟨false, false, 0, 0⟩ := fun j d h => (by
      have := List.mem_of_getElem? h
      simp only [Pl.new] at this
      exact (List.mem_replicate.1 this).2)
    have hm0 : (Pl.new l).mv = 0 := rfl
    have hz0 : ∀ x ∈ (Pl.new l).at_, x = 0 := fun x hx => (by
      simp only [Pl.new] at hx
      exact (List.mem_replicate.1 hx).2)
    generalize Pl.new l = p0 at hk0 he0 hl0 hd0 hm0 hz0
    unfold Pl.h
    ((with_reducible first | apply WO2_finw | apply WO2_fina); ((conv => lhs; simp only [go_sem, ibin, ishift]) <;> with_reducible rfl))
    (repeat' with_reducible first | refine thn2_nrm ?_ | refine thn2_ret ?_ | refine thn2_ex ?_ | refine blk2_nrm ?_ | refine blk2_ret ?_ | refine blk2_at ?_ | (refine blk2_ex ?_ ?_; decide) | refine W2_sas ?_ | refine W2_ss ?_ | refine W2_sret ?_ | refine W2_sexit ?_ | ((first | apply W2_sra | apply W2_srda | apply W2_runa | apply W2_runda); (conv => lhs; simp only [go_sem, ibin, ishift]) <;> rfl) | ((first | apply W2_srS | apply W2_runS); decide +kernel; (conv => lhs; simp only [go_sem, ibin, ishift]) <;> rfl) | ((first | apply W2_sct | apply W2_t2); (conv => lhs; simp only [go_sem]) <;> rfl; rfl) | ((first | apply W2_scf | apply W2_f2); (conv => lhs; simp only [go_sem]) <;> rfl; rfl) | refine W2_ret ?_ | refine W2_exit ?_ | refine W2_skip ?_ | refine W2_seq ?_ | refine W2_block ?_)
    have hz := good_sz hg
    have mz0 : (0 : Int) ≤ (l.ns.length : Int) := by omega
    have mz1 : (l.ns.length : Int) * 8 ≤ (room : Int) := by simp only [room]; omega
    (repeat' with_reducible first | refine thn2_nrm ?_ | refine thn2_ret ?_ | refine thn2_ex ?_ | refine blk2_nrm ?_ | refine blk2_ret ?_ | refine blk2_at ?_ | (refine blk2_ex ?_ ?_; decide) | refine W2_sas ?_ | refine W2_ss ?_ | refine W2_sret ?_ | refine W2_sexit ?_ | ((first | apply W2_sra | apply W2_srda | apply W2_runa | apply W2_runda); (conv => lhs; simp only [go_sem, ibin, ishift]) <;> rfl) | ((first | apply W2_srS | apply W2_runS); decide +kernel; (conv => lhs; simp only [go_sem, ibin, ishift]) <;> rfl) | ((first | apply W2_sct | apply W2_t2); (conv => lhs; simp only [go_sem]) <;> rfl; rfl) | ((first | apply W2_scf | apply W2_f2); (conv => lhs; simp only [go_sem]) <;> rfl; rfl) | refine W2_ret ?_ | refine W2_exit ?_ | refine W2_skip ?_ | refine W2_seq ?_ | refine W2_block ?_)
    refine W2_loopu (fun m u g => ∃ (j : Nat) (w : List Int), j + m = 31 ∧ w.length = 31 ∧ (∀ t < j, w[t]? = some (-1)) ∧ u = [(36, .i .i64 j)] ∧ g = [(4, .obj (w.map fun n => SV.p (PV.i .i64 n)))]) 31 ⟨0, List.replicate 31 0, by omega, by simp, fun t h => by omega, rfl, rfl⟩ rfl rfl ?_
    rintro m u g ⟨j, w, hj, hw, hwj, rfl, rfl⟩
    intro e1 h1 he1 hh1; simp only [egd, supE, hgd, supH, Nat.reduceEqDiff, Nat.reduceAdd, if_true, if_false, reduceIte] at he1 hh1; subst he1; subst hh1
    by_cases hj2 : j < 31
    · have dd : decide ((j : Int) < 31) = true := decide_eq_true (by omega)
      have j0 : (0 : Int) ≤ (j : Int) := by omega
      have j1 : (j : Int) < 31 := by omega
      have j2 : j + 1 ≤ 31 := by omega
      (repeat' with_reducible first | refine thn2_nrm ?_ | refine thn2_ret ?_ | refine thn2_ex ?_ | refine blk2_nrm ?_ | refine blk2_ret ?_ | refine blk2_at ?_ | (refine blk2_ex ?_ ?_; decide) | refine W2_sas ?_ | refine W2_ss ?_ | refine W2_sret ?_ | refine W2_sexit ?_ | ((first | apply W2_sra | apply W2_srda | apply W2_runa | apply W2_runda); (conv => lhs; simp only [go_sem, ibin, ishift, dd, j0, j1, j2, hw, wS (show j < 9223372036854775807 by omega)]) <;> rfl) | ((first | apply W2_srS | apply W2_runS); decide +kernel; (conv => lhs; simp only [go_sem, ibin, ishift, dd, j0, j1, j2, hw, wS (show j < 9223372036854775807 by omega)]) <;> rfl) | ((first | apply W2_sct | apply W2_t2); (conv => lhs; simp only [go_sem]) <;> rfl; rfl) | ((first | apply W2_scf | apply W2_f2); (conv => lhs; simp only [go_sem]) <;> rfl; rfl) | refine W2_ret ?_ | refine W2_exit ?_ | refine W2_skip ?_ | refine W2_seq ?_ | refine W2_block ?_)
      rw [show (w.map fun n => SV.p (PV.i .i64 n)).set j (SV.p (PV.i .i64 (-1))) = (w.set j (-1)).map fun n => SV.p (PV.i .i64 n) by rw [List.map_set]]
      refine ⟨[0, 1, 2, 3, 4], by decide, rfl, ?_⟩
      exact ⟨30 - j, _, _, by omega, ⟨j + 1, w.set j (-1), by omega, by rw [List.length_set]; exact hw, fun t h => by
        by_cases e : j = t
        · subst e; exact List.getElem?_set_self (by omega)
        · rw [List.getElem?_set_ne e]; exact hwj t (by omega), rfl, rfl⟩, rfl, (by first | rfl | ((conv => lhs; simp only [go_sem, ibin, ishift]) <;> rfl))⟩
    have dd : decide ((j : Int) < 31) = false := decide_eq_false (by omega)
    obtain rfl : j = 31 := by omega
    have hI0 : StillI l 0 p0 w := ⟨⟨⟨fun a b x ha hb h0 => (h0 (hz0 x (List.mem_of_getElem? ha))).elim, fun x hx => by rw [hz0 x hx]; decide⟩, hw, fun t t1 t2 => by
      rw [hwj t (by omega), ixOf_no fun k hk => by have := hz0 _ (List.mem_of_getElem? hk); omega]⟩, hk0, he0, hl0, by omega, by omega⟩
    clear hwj hw
    (repeat' with_reducible first | refine thn2_nrm ?_ | refine thn2_ret ?_ | refine thn2_ex ?_ | refine blk2_nrm ?_ | refine blk2_ret ?_ | refine blk2_at ?_ | (refine blk2_ex ?_ ?_; decide) | refine W2_sas ?_ | refine W2_ss ?_ | refine W2_sret ?_ | refine W2_sexit ?_ | ((first | apply W2_sra | apply W2_srda | apply W2_runa | apply W2_runda); (conv => lhs; simp only [go_sem, ibin, ishift, dd]) <;> rfl) | ((first | apply W2_srS | apply W2_runS); decide +kernel; (conv => lhs; simp only [go_sem, ibin, ishift, dd]) <;> rfl) | ((first | apply W2_sct | apply W2_t2); (conv => lhs; simp only [go_sem]) <;> rfl; rfl) | ((first | apply W2_scf | apply W2_f2); (conv => lhs; simp only [go_sem]) <;> rfl; rfl) | refine W2_ret ?_ | refine W2_exit ?_ | refine W2_skip ?_ | refine W2_seq ?_ | refine W2_block ?_)
    refine W2_loopu (fun m u g => ∃ (i : Nat) (p : Pl) (was : List Int), i + m = 150 ∧ StillI l i p was ∧ u = [(9, .i .i64 i)] ∧ g = [(1, .obj [.fz 2 (p.es.map cD), .sl 1 2 0 p.at_.length none, .sl 4 3 0 p.ds.length none, .i .i64 p.mv]), (2, .arr 1 (p.at_.map cI)), (3, .arr 4 (p.ds.map cV)), (4, .obj (was.map fun n => SV.p (PV.i .i64 n)))]) 150 ⟨0, p0, w, by omega, hI0, rfl, rfl⟩ rfl rfl ?_
    rintro m u g ⟨i, p, was, hi, hI, rfl, rfl⟩
    intro e1 h1 he1 hh1; simp only [egd, supE, hgd, supH, Nat.reduceEqDiff, Nat.reduceAdd, if_true, if_false, reduceIte] at he1 hh1; subst he1; subst hh1
    by_cases hil : i < s.length ∧ i < 150
    rotate_left
    · have hdec : (decide (i < s.length) && decide ((i : Int) < 150)) = false := by
        by_cases h : i < s.length
        · rw [decide_eq_false (show ¬((i : Int) < 150) by omega)]; simp
        · rw [decide_eq_false h]; rfl
      ((repeat' with_reducible first | refine thn2_nrm ?_ | refine thn2_ret ?_ | refine thn2_ex ?_ | refine blk2_nrm ?_ | refine blk2_ret ?_ | refine blk2_at ?_ | (refine blk2_ex ?_ ?_; decide) | refine W2_sas ?_ | refine W2_ss ?_ | refine W2_sret ?_ | refine W2_sexit ?_ | refine W2_skip ?_ | ((first | apply W2_sct | apply W2_t2); (conv => lhs; simp only [go_sem]) <;> rfl; rfl) | ((first | apply W2_scf | apply W2_f2); (conv => lhs; simp only [go_sem]) <;> rfl; rfl) | refine W2_block ?_ | refine W2_seq ?_ | refine W2_exit ?_); (first | ((with_reducible first | apply W2_sra | apply W2_srda | apply W2_runa | apply W2_runda); ((conv => lhs; simp only [go_sem, ibin, ishift]) <;> with_reducible rfl)) | ((with_reducible first | apply W2_srS | apply W2_runS); decide +kernel; ((conv => lhs; simp only [go_sem, ibin, ishift]) <;> with_reducible rfl))))
      rw [hdec]
      (repeat' with_reducible first | refine thn2_nrm ?_ | refine thn2_ret ?_ | refine thn2_ex ?_ | refine blk2_nrm ?_ | refine blk2_ret ?_ | refine blk2_at ?_ | (refine blk2_ex ?_ ?_; decide) | refine W2_sas ?_ | refine W2_ss ?_ | refine W2_sret ?_ | refine W2_sexit ?_ | ((first | apply W2_sra | apply W2_srda | apply W2_runa | apply W2_runda); (conv => lhs; simp only [go_sem, ibin, ishift]) <;> rfl) | ((first | apply W2_srS | apply W2_runS); decide +kernel; (conv => lhs; simp only [go_sem, ibin, ishift]) <;> rfl) | ((first | apply W2_sct | apply W2_t2); (conv => lhs; simp only [go_sem]) <;> rfl; rfl) | ((first | apply W2_scf | apply W2_f2); (conv => lhs; simp only [go_sem]) <;> rfl; rfl) | refine W2_ret ?_ | refine W2_exit ?_ | refine W2_skip ?_ | refine W2_seq ?_ | refine W2_block ?_)
      refine ⟨by first | exact .inr rfl | exact .inl rfl, _, _, (by (conv => lhs; simp only [go_sem, ibin, ishift]) <;> with_reducible rfl), (by (conv => lhs; simp only [go_sem, ibin, ishift]) <;> with_reducible rfl), ?_⟩
      refine ⟨[], by decide, rfl, ?_⟩
      rfl
    obtain ⟨hil, hi2⟩ := hil
    have hg := List.getElem?_eq_getElem hil
    have hto := ht _ (List.getElem_mem hil)
    generalize s[i] = x at hg hto
    have h0 : (0 : Int) ≤ (i : Int) := by omega
    have h1 : (i : Int) < (s.length : Int) := by omega
    have h2 : (i : Int) < 150 := by omega
    have d1 : decide ((i : Int) < (s.length : Int)) = true := decide_eq_true h1
    have d2 : decide ((i : Int) < 150) = true := decide_eq_true h2
    have wi1 := wS (show i < 9223372036854775807 by omega)
    (repeat' with_reducible first | refine thn2_nrm ?_ | refine thn2_ret ?_ | refine thn2_ex ?_ | refine blk2_nrm ?_ | refine blk2_ret ?_ | refine blk2_at ?_ | (refine blk2_ex ?_ ?_; decide) | refine W2_sas ?_ | refine W2_ss ?_ | refine W2_sret ?_ | refine W2_sexit ?_ | ((first | apply W2_sra | apply W2_srda | apply W2_runa | apply W2_runda); (conv => lhs; simp only [go_sem, ibin, ishift, d1, d2, h1, h2, h0, hil, hg, cO]) <;> rfl) | ((first | apply W2_srS | apply W2_runS); decide +kernel; (conv => lhs; simp only [go_sem, ibin, ishift, d1, d2, h1, h2, h0, hil, hg, cO]) <;> rfl) | ((first | apply W2_sct | apply W2_t2); (conv => lhs; simp only [go_sem]) <;> rfl; rfl) | ((first | apply W2_scf | apply W2_f2); (conv => lhs; simp only [go_sem]) <;> rfl; rfl) | refine W2_ret ?_ | refine W2_exit ?_ | refine W2_skip ?_ | refine W2_seq ?_ | refine W2_block ?_)
    have hk := hI.ok
    have hlen := hI.st.len
    (repeat' with_reducible first | refine thn2_nrm ?_ | refine thn2_ret ?_ | refine thn2_ex ?_ | refine blk2_nrm ?_ | refine blk2_ret ?_ | refine blk2_at ?_ | (refine blk2_ex ?_ ?_; decide) | refine W2_sas ?_ | refine W2_ss ?_ | refine W2_sret ?_ | refine W2_sexit ?_ | ((first | apply W2_sra | apply W2_srda | apply W2_runa | apply W2_runda); (conv => lhs; simp only [go_sem, ibin, ishift]) <;> rfl) | ((first | apply W2_srS | apply W2_runS); decide +kernel; (conv => lhs; simp only [go_sem, ibin, ishift]) <;> rfl) | ((first | apply W2_sct | apply W2_t2); (conv => lhs; simp only [go_sem]) <;> rfl; rfl) | ((first | apply W2_scf | apply W2_f2); (conv => lhs; simp only [go_sem]) <;> rfl; rfl) | refine W2_ret ?_ | refine W2_exit ?_ | refine W2_skip ?_ | refine W2_seq ?_ | refine W2_block ?_)
    (first | (((with_reducible first | apply W2_scall | apply W2_scalld | apply W2_calla | apply W2_callda | apply run2a_sound); ((conv => lhs; simp only [go_sem, ibin, ishift]) <;> with_reducible rfl))) | ((with_reducible first | apply W2_scallS | apply W2_callS); decide +kernel; ((conv => lhs; simp only [go_sem, ibin, ishift]) <;> with_reducible rfl)))
    refine CK_call [1, 2, 3] (moves_spec c.toTabP p) (by decide) (by simp) rfl rfl (by first | rfl | (simp only [go_sem, Pl.h]; done) | (simp only [go_sem, Pl.h] <;> rfl)) ?_
    rintro v h' ⟨rfl, rfl⟩
    unfold Pl.h
    ((with_reducible first | apply WO2_finw | apply WO2_fina); ((conv => lhs; simp only [go_sem, ibin, ishift]) <;> with_reducible rfl))
    (repeat' with_reducible first | refine thn2_nrm ?_ | refine thn2_ret ?_ | refine thn2_ex ?_ | refine blk2_nrm ?_ | refine blk2_ret ?_ | refine blk2_at ?_ | (refine blk2_ex ?_ ?_; decide) | refine W2_sas ?_ | refine W2_ss ?_ | refine W2_sret ?_ | refine W2_sexit ?_ | ((first | apply W2_sra | apply W2_srda | apply W2_runa | apply W2_runda); (conv => lhs; simp only [go_sem, ibin, ishift]) <;> rfl) | ((first | apply W2_srS | apply W2_runS); decide +kernel; (conv => lhs; simp only [go_sem, ibin, ishift]) <;> rfl) | ((first | apply W2_sct | apply W2_t2); (conv => lhs; simp only [go_sem]) <;> rfl; rfl) | ((first | apply W2_scf | apply W2_f2); (conv => lhs; simp only [go_sem]) <;> rfl; rfl) | refine W2_ret ?_ | refine W2_exit ?_ | refine W2_skip ?_ | refine W2_seq ?_ | refine W2_block ?_)
    (((first | with_reducible apply W2_sc | with_reducible apply W2_cond); ((conv => lhs; simp only [go_sem]) <;> with_reducible rfl)) <;> intro hx <;> (try rw [hx]) <;> simp only [Bool.or_eq_true, Bool.and_eq_true, decide_eq_true_eq, Bool.or_eq_false_iff, Bool.and_eq_false_iff, decide_eq_false_iff_not, Bool.not_eq_true', Bool.not_eq_false', bne_iff_ne, beq_iff_eq, not_or, not_and, Decidable.not_not, ne_eq, gt_iff_lt, ge_iff_le, Int.not_lt, Int.not_le] at hx)
    · have hpe := p.put_es x.a x.b
      have hk2 := Pl.put_ok hk x.a x.b
      have hput := hI.st.put (t := x.a) (n := x.b)
      have hno : (p.put x.a x.b).2 ≠ 0 → (p.put x.a x.b).1 = p := Pl.put_no
      (repeat' with_reducible first | refine thn2_nrm ?_ | refine thn2_ret ?_ | refine thn2_ex ?_ | refine blk2_nrm ?_ | refine blk2_ret ?_ | refine blk2_at ?_ | (refine blk2_ex ?_ ?_; decide) | refine W2_sas ?_ | refine W2_ss ?_ | refine W2_sret ?_ | refine W2_sexit ?_ | ((first | apply W2_sra | apply W2_srda | apply W2_runa | apply W2_runda); (conv => lhs; simp only [go_sem, ibin, ishift]) <;> rfl) | ((first | apply W2_srS | apply W2_runS); decide +kernel; (conv => lhs; simp only [go_sem, ibin, ishift]) <;> rfl) | ((first | apply W2_sct | apply W2_t2); (conv => lhs; simp only [go_sem]) <;> rfl; rfl) | ((first | apply W2_scf | apply W2_f2); (conv => lhs; simp only [go_sem]) <;> rfl; rfl) | refine W2_ret ?_ | refine W2_exit ?_ | refine W2_skip ?_ | refine W2_seq ?_ | refine W2_block ?_)
      (first | (((with_reducible first | apply W2_scall | apply W2_scalld | apply W2_calla | apply W2_callda | apply run2a_sound); ((conv => lhs; simp only [go_sem, ibin, ishift]) <;> with_reducible rfl))) | ((with_reducible first | apply W2_scallS | apply W2_callS); decide +kernel; ((conv => lhs; simp only [go_sem, ibin, ishift]) <;> with_reducible rfl)))
      refine CK_call [1, 2, 3] (put_spec c.toTabP p hk.al x.a x.b) (by decide) (by simp) rfl rfl (by first | rfl | (simp only [go_sem, Pl.h]; done) | (simp only [go_sem, Pl.h] <;> rfl)) ?_
      rintro v h' ⟨rfl, rfl⟩
      generalize (p.put x.a x.b) = r at hpe hk2 hput hno
      obtain ⟨p2, e⟩ := r
      simp only at hpe hk2 hput hno
      by_cases he : e = 0
      · subst he
        obtain ⟨b1, b2, b3, b4, b5, b6, b7⟩ := hput rfl
        have hI2 : StillI l (i + 1) p2 (was.set x.a.toNat x.b) := ⟨b7, hk2, by rw [hpe.1, hI.es], by rw [hpe.2.2.2, hI.al], by rw [hpe.2.2.1]; exact hI.m0, by have := hI.m1; rw [hpe.2.2.1]; omega⟩
        have r0 : (0 : Int) ≤ x.a := by omega
        have r1 : x.a < 31 := by omega
        have r2 : x.a.toNat < 31 := by omega
        have r3 : x.a.toNat + 1 ≤ 31 := by omega
        have e1 : decide (x.a < 1) = false := decide_eq_false (by omega)
        have e2 : decide (x.a > 30) = false := decide_eq_false (by omega)
        have e3 : decide (x.b = x.b) = true := by simp
        unfold Pl.h
        ((with_reducible first | apply WO2_finw | apply WO2_fina); ((conv => lhs; simp only [go_sem, ibin, ishift]) <;> with_reducible rfl))
        (repeat' with_reducible first | refine thn2_nrm ?_ | refine thn2_ret ?_ | refine thn2_ex ?_ | refine blk2_nrm ?_ | refine blk2_ret ?_ | refine blk2_at ?_ | (refine blk2_ex ?_ ?_; decide) | refine W2_sas ?_ | refine W2_ss ?_ | refine W2_sret ?_ | refine W2_sexit ?_ | ((first | apply W2_sra | apply W2_srda | apply W2_runa | apply W2_runda); (conv => lhs; simp only [go_sem, ibin, ishift]) <;> rfl) | ((first | apply W2_srS | apply W2_runS); decide +kernel; (conv => lhs; simp only [go_sem, ibin, ishift]) <;> rfl) | ((first | apply W2_sct | apply W2_t2); (conv => lhs; simp only [go_sem]) <;> rfl; rfl) | ((first | apply W2_scf | apply W2_f2); (conv => lhs; simp only [go_sem]) <;> rfl; rfl) | refine W2_ret ?_ | refine W2_exit ?_ | refine W2_skip ?_ | refine W2_seq ?_ | refine W2_block ?_)
        (repeat' with_reducible first | refine thn2_nrm ?_ | refine thn2_ret ?_ | refine thn2_ex ?_ | refine blk2_nrm ?_ | refine blk2_ret ?_ | refine blk2_at ?_ | (refine blk2_ex ?_ ?_; decide) | refine W2_sas ?_ | refine W2_ss ?_ | refine W2_sret ?_ | refine W2_sexit ?_ | refine W2_skip ?_ | ((first | apply W2_sct | apply W2_t2); (conv => lhs; simp only [go_sem]) <;> rfl; rfl) | ((first | apply W2_scf | apply W2_f2); (conv => lhs; simp only [go_sem]) <;> rfl; rfl) | refine W2_block ?_ | refine W2_seq ?_ | refine W2_exit ?_)
        (with_reducible first | apply W2_sregH [4, 5] [false, false, false, false, false, false, false, false, false, false, false, false, false, false, false, false, false, false, false, false, false, true, false, false] | apply W2_regH [4, 5] [false, false, false, false, false, false, false, false, false, false, false, false, false, false, false, false, false, false, false, false, false, true, false, false])
        · decide
        · decide
        · rfl
        ((conv => lhs; simp only [go_sem, ibin, ishift, r0, r1, r2, hlen, b5, e1, e2]) <;> with_reducible rfl)
        refine EH_call [1, 2, 3] (where_spec c.toTabP p2 hk2.al x.a) (by decide) (by simp) rfl rfl rfl (by first | rfl | (simp only [go_sem, Pl.h]; done) | (simp only [go_sem, Pl.h] <;> rfl)) ?_
        rintro v h' ⟨rfl, rfl⟩
        rw [b6]
        unfold Pl.h
        (with_reducible apply WOH_go (by decide); ((conv => lhs; simp only [go_sem, ibin, ishift, e3]) <;> with_reducible rfl))
        refine EH_go ?_
        (repeat' with_reducible first | refine thn2_nrm ?_ | refine thn2_ret ?_ | refine thn2_ex ?_ | refine blk2_nrm ?_ | refine blk2_ret ?_ | refine blk2_at ?_ | (refine blk2_ex ?_ ?_; decide) | refine W2_sas ?_ | refine W2_ss ?_ | refine W2_sret ?_ | refine W2_sexit ?_ | ((first | apply W2_sra | apply W2_srda | apply W2_runa | apply W2_runda); (conv => lhs; simp only [go_sem, ibin, ishift, r0, r1, r3, hlen]) <;> rfl) | ((first | apply W2_srS | apply W2_runS); decide +kernel; (conv => lhs; simp only [go_sem, ibin, ishift, r0, r1, r3, hlen]) <;> rfl) | ((first | apply W2_sct | apply W2_t2); (conv => lhs; simp only [go_sem]) <;> rfl; rfl) | ((first | apply W2_scf | apply W2_f2); (conv => lhs; simp only [go_sem]) <;> rfl; rfl) | refine W2_ret ?_ | refine W2_exit ?_ | refine W2_skip ?_ | refine W2_seq ?_ | refine W2_block ?_)
        rw [show (was.map fun n => SV.p (PV.i .i64 n)).set x.a.toNat (SV.p (PV.i .i64 x.b)) = (was.set x.a.toNat x.b).map fun n => SV.p (PV.i .i64 n) by rw [List.map_set]]
        generalize was.set x.a.toNat x.b = was2 at hI2
        (repeat' with_reducible first | refine thn2_nrm ?_ | refine thn2_ret ?_ | refine thn2_ex ?_ | refine blk2_nrm ?_ | refine blk2_ret ?_ | refine blk2_at ?_ | (refine blk2_ex ?_ ?_; decide) | refine W2_sas ?_ | refine W2_ss ?_ | refine W2_sret ?_ | refine W2_sexit ?_ | ((first | apply W2_sra | apply W2_srda | apply W2_runa | apply W2_runda); (conv => lhs; simp only [go_sem, ibin, ishift, mz0, mz1, Int.le_refl, Int.toNat_natCast]) <;> rfl) | ((first | apply W2_srS | apply W2_runS); decide +kernel; (conv => lhs; simp only [go_sem, ibin, ishift, mz0, mz1, Int.le_refl, Int.toNat_natCast]) <;> rfl) | ((first | apply W2_sct | apply W2_t2); (conv => lhs; simp only [go_sem]) <;> rfl; rfl) | ((first | apply W2_scf | apply W2_f2); (conv => lhs; simp only [go_sem]) <;> rfl; rfl) | refine W2_ret ?_ | refine W2_exit ?_ | refine W2_skip ?_ | refine W2_seq ?_ | refine W2_block ?_)
        refine W2.weak (Wk.keep [1, 2, 5, 7, 9, 15, 16] rfl) ?_
        refine W2.wview [0, 1, 2, 3, 4, 6] (by decide) rfl (by (conv => lhs; simp only [go_sem, ibin, ishift]) <;> with_reducible rfl) (by (conv => lhs; simp only [go_sem, ibin, ishift]) <;> with_reducible rfl) ?_
        rw [rep_cI]
        refine still_tail c (p := p2) (was := was2) (StillI.ok hI2) (StillI.st hI2) (StillI.al hI2) fun er rest => ?_
        simp only [stillH, List.cons_append, List.nil_append]
        (repeat' with_reducible first | refine thn2_nrm ?_ | refine thn2_ret ?_ | refine thn2_ex ?_ | refine blk2_nrm ?_ | refine blk2_ret ?_ | refine blk2_at ?_ | (refine blk2_ex ?_ ?_; decide) | refine W2_sas ?_ | refine W2_ss ?_ | refine W2_sret ?_ | refine W2_sexit ?_ | ((first | apply W2_sra | apply W2_srda | apply W2_runa | apply W2_runda); (conv => lhs; simp only [go_sem, ibin, ishift, wi1]) <;> rfl) | ((first | apply W2_srS | apply W2_runS); decide +kernel; (conv => lhs; simp only [go_sem, ibin, ishift, wi1]) <;> rfl) | ((first | apply W2_sct | apply W2_t2); (conv => lhs; simp only [go_sem]) <;> rfl; rfl) | ((first | apply W2_scf | apply W2_f2); (conv => lhs; simp only [go_sem]) <;> rfl; rfl) | refine W2_ret ?_ | refine W2_exit ?_ | refine W2_skip ?_ | refine W2_seq ?_ | refine W2_block ?_)
        refine ⟨[0, 1, 2, 3, 4], by decide, rfl, ?_⟩
        exact ⟨150 - (i + 1), _, _, by omega, ⟨i + 1, p2, was2, by omega, hI2, rfl, rfl⟩, rfl, (by first | rfl | ((conv => lhs; simp only [go_sem, ibin, ishift]) <;> rfl))⟩
      · have e0 : decide (e = 0) = false := decide_eq_false he
        rw [hno he]
        have hI2 : StillI l (i + 1) p was := ⟨hI.st, hI.ok, hI.es, hI.al, hI.m0, by have := hI.m1; omega⟩
        unfold Pl.h
        ((with_reducible first | apply WO2_finw | apply WO2_fina); ((conv => lhs; simp only [go_sem, ibin, ishift, e0]) <;> with_reducible rfl))
        (repeat' with_reducible first | refine thn2_nrm ?_ | refine thn2_ret ?_ | refine thn2_ex ?_ | refine blk2_nrm ?_ | refine blk2_ret ?_ | refine blk2_at ?_ | (refine blk2_ex ?_ ?_; decide) | refine W2_sas ?_ | refine W2_ss ?_ | refine W2_sret ?_ | refine W2_sexit ?_ | ((first | apply W2_sra | apply W2_srda | apply W2_runa | apply W2_runda); (conv => lhs; simp only [go_sem, ibin, ishift, mz0, mz1, Int.le_refl, Int.toNat_natCast]) <;> rfl) | ((first | apply W2_srS | apply W2_runS); decide +kernel; (conv => lhs; simp only [go_sem, ibin, ishift, mz0, mz1, Int.le_refl, Int.toNat_natCast]) <;> rfl) | ((first | apply W2_sct | apply W2_t2); (conv => lhs; simp only [go_sem]) <;> rfl; rfl) | ((first | apply W2_scf | apply W2_f2); (conv => lhs; simp only [go_sem]) <;> rfl; rfl) | refine W2_ret ?_ | refine W2_exit ?_ | refine W2_skip ?_ | refine W2_seq ?_ | refine W2_block ?_)
        refine W2.weak (Wk.keep [1, 2, 5, 7, 9, 15, 16] rfl) ?_
        refine W2.wview [0, 1, 2, 3, 4, 6] (by decide) rfl (by (conv => lhs; simp only [go_sem, ibin, ishift]) <;> with_reducible rfl) (by (conv => lhs; simp only [go_sem, ibin, ishift]) <;> with_reducible rfl) ?_
        rw [rep_cI]
        refine still_tail c (p := p) (was := was) (StillI.ok hI2) (StillI.st hI2) (StillI.al hI2) fun er rest => ?_
        simp only [stillH, List.cons_append, List.nil_append]
        (repeat' with_reducible first | refine thn2_nrm ?_ | refine thn2_ret ?_ | refine thn2_ex ?_ | refine blk2_nrm ?_ | refine blk2_ret ?_ | refine blk2_at ?_ | (refine blk2_ex ?_ ?_; decide) | refine W2_sas ?_ | refine W2_ss ?_ | refine W2_sret ?_ | refine W2_sexit ?_ | ((first | apply W2_sra | apply W2_srda | apply W2_runa | apply W2_runda); (conv => lhs; simp only [go_sem, ibin, ishift, wi1]) <;> rfl) | ((first | apply W2_srS | apply W2_runS); decide +kernel; (conv => lhs; simp only [go_sem, ibin, ishift, wi1]) <;> rfl) | ((first | apply W2_sct | apply W2_t2); (conv => lhs; simp only [go_sem]) <;> rfl; rfl) | ((first | apply W2_scf | apply W2_f2); (conv => lhs; simp only [go_sem]) <;> rfl; rfl) | refine W2_ret ?_ | refine W2_exit ?_ | refine W2_skip ?_ | refine W2_seq ?_ | refine W2_block ?_)
        refine ⟨[0, 1, 2, 3, 4], by decide, rfl, ?_⟩
        exact ⟨150 - (i + 1), _, _, by omega, ⟨i + 1, p, was, by omega, hI2, rfl, rfl⟩, rfl, (by first | rfl | ((conv => lhs; simp only [go_sem, ibin, ishift]) <;> rfl))⟩
    · (repeat' with_reducible first | refine thn2_nrm ?_ | refine thn2_ret ?_ | refine thn2_ex ?_ | refine blk2_nrm ?_ | refine blk2_ret ?_ | refine blk2_at ?_ | (refine blk2_ex ?_ ?_; decide) | refine W2_sas ?_ | refine W2_ss ?_ | refine W2_sret ?_ | refine W2_sexit ?_ | ((first | apply W2_sra | apply W2_srda | apply W2_runa | apply W2_runda); (conv => lhs; simp only [go_sem, ibin, ishift]) <;> rfl) | ((first | apply W2_srS | apply W2_runS); decide +kernel; (conv => lhs; simp only [go_sem, ibin, ishift]) <;> rfl) | ((first | apply W2_sct | apply W2_t2); (conv => lhs; simp only [go_sem]) <;> rfl; rfl) | ((first | apply W2_scf | apply W2_f2); (conv => lhs; simp only [go_sem]) <;> rfl; rfl) | refine W2_ret ?_ | refine W2_exit ?_ | refine W2_skip ?_ | refine W2_seq ?_ | refine W2_block ?_)
      (((first | with_reducible apply W2_sc | with_reducible apply W2_cond); ((conv => lhs; simp only [go_sem]) <;> with_reducible rfl)) <;> intro hx <;> (try rw [hx]) <;> simp only [Bool.or_eq_true, Bool.and_eq_true, decide_eq_true_eq, Bool.or_eq_false_iff, Bool.and_eq_false_iff, decide_eq_false_iff_not, Bool.not_eq_true', Bool.not_eq_false', bne_iff_ne, beq_iff_eq, not_or, not_and, Decidable.not_not, ne_eq, gt_iff_lt, ge_iff_le, Int.not_lt, Int.not_le] at hx)
      · have hcs := p.hear_cases x.t
        (repeat' with_reducible first | refine thn2_nrm ?_ | refine thn2_ret ?_ | refine thn2_ex ?_ | refine blk2_nrm ?_ | refine blk2_ret ?_ | refine blk2_at ?_ | (refine blk2_ex ?_ ?_; decide) | refine W2_sas ?_ | refine W2_ss ?_ | refine W2_sret ?_ | refine W2_sexit ?_ | ((first | apply W2_sra | apply W2_srda | apply W2_runa | apply W2_runda); (conv => lhs; simp only [go_sem, ibin, ishift]) <;> rfl) | ((first | apply W2_srS | apply W2_runS); decide +kernel; (conv => lhs; simp only [go_sem, ibin, ishift]) <;> rfl) | ((first | apply W2_sct | apply W2_t2); (conv => lhs; simp only [go_sem]) <;> rfl; rfl) | ((first | apply W2_scf | apply W2_f2); (conv => lhs; simp only [go_sem]) <;> rfl; rfl) | refine W2_ret ?_ | refine W2_exit ?_ | refine W2_skip ?_ | refine W2_seq ?_ | refine W2_block ?_)
        (first | (((with_reducible first | apply W2_scall | apply W2_scalld | apply W2_calla | apply W2_callda | apply run2a_sound); ((conv => lhs; simp only [go_sem, ibin, ishift]) <;> with_reducible rfl))) | ((with_reducible first | apply W2_scallS | apply W2_callS); decide +kernel; ((conv => lhs; simp only [go_sem, ibin, ishift]) <;> with_reducible rfl)))
        refine CK_call [1, 2, 3] (hear_spec c.toTabP p hk x.t hto) (by decide) (by simp) rfl rfl (by first | rfl | (simp only [go_sem, Pl.h, Te.v]; done) | (simp only [go_sem, Pl.h, Te.v] <;> rfl)) ?_
        rintro v h' ⟨rfl, rfl⟩
        rcases hcs with ⟨hc1, _⟩ | ⟨d, e, hw, hkk, hd, he, _, hta, hta0, htb, hc⟩
        · rw [hc1]
          have hI2 : StillI l (i + 1) p was := ⟨hI.st, hI.ok, hI.es, hI.al, hI.m0, by have := hI.m1; omega⟩
          generalize p.hear x.t = r
          obtain ⟨_, u, ok⟩ := r
          unfold Pl.h Te.v
          simp only
          ((with_reducible first | apply WO2_finw | apply WO2_fina); ((conv => lhs; simp only [go_sem, ibin, ishift]) <;> with_reducible rfl))
          (repeat' with_reducible first | refine thn2_nrm ?_ | refine thn2_ret ?_ | refine thn2_ex ?_ | refine blk2_nrm ?_ | refine blk2_ret ?_ | refine blk2_at ?_ | (refine blk2_ex ?_ ?_; decide) | refine W2_sas ?_ | refine W2_ss ?_ | refine W2_sret ?_ | refine W2_sexit ?_ | ((first | apply W2_sra | apply W2_srda | apply W2_runa | apply W2_runda); (conv => lhs; simp only [go_sem, ibin, ishift]) <;> rfl) | ((first | apply W2_srS | apply W2_runS); decide +kernel; (conv => lhs; simp only [go_sem, ibin, ishift]) <;> rfl) | ((first | apply W2_sct | apply W2_t2); (conv => lhs; simp only [go_sem]) <;> rfl; rfl) | ((first | apply W2_scf | apply W2_f2); (conv => lhs; simp only [go_sem]) <;> rfl; rfl) | refine W2_ret ?_ | refine W2_exit ?_ | refine W2_skip ?_ | refine W2_seq ?_ | refine W2_block ?_)
          (first | (((with_reducible first | apply W2_scall | apply W2_scalld | apply W2_calla | apply W2_callda | apply run2a_sound); ((conv => lhs; simp only [go_sem, ibin, ishift]) <;> with_reducible rfl))) | ((with_reducible first | apply W2_scallS | apply W2_callS); decide +kernel; ((conv => lhs; simp only [go_sem, ibin, ishift]) <;> with_reducible rfl)))
          refine CK_call [1, 2, 3] (moves_spec c.toTabP p) (by decide) (by simp) rfl rfl (by first | rfl | (simp only [go_sem, Pl.h]; done) | (simp only [go_sem, Pl.h] <;> rfl)) ?_
          rintro v h' ⟨rfl, rfl⟩
          unfold Pl.h
          have q1 : decide (p.mv > p.mv) = false := by simp
          ((with_reducible first | apply WO2_finw | apply WO2_fina); ((conv => lhs; simp only [go_sem, ibin, ishift, q1]) <;> with_reducible rfl))
          (repeat' with_reducible first | refine thn2_nrm ?_ | refine thn2_ret ?_ | refine thn2_ex ?_ | refine blk2_nrm ?_ | refine blk2_ret ?_ | refine blk2_at ?_ | (refine blk2_ex ?_ ?_; decide) | refine W2_sas ?_ | refine W2_ss ?_ | refine W2_sret ?_ | refine W2_sexit ?_ | ((first | apply W2_sra | apply W2_srda | apply W2_runa | apply W2_runda); (conv => lhs; simp only [go_sem, ibin, ishift, mz0, mz1, Int.le_refl, Int.toNat_natCast]) <;> rfl) | ((first | apply W2_srS | apply W2_runS); decide +kernel; (conv => lhs; simp only [go_sem, ibin, ishift, mz0, mz1, Int.le_refl, Int.toNat_natCast]) <;> rfl) | ((first | apply W2_sct | apply W2_t2); (conv => lhs; simp only [go_sem]) <;> rfl; rfl) | ((first | apply W2_scf | apply W2_f2); (conv => lhs; simp only [go_sem]) <;> rfl; rfl) | refine W2_ret ?_ | refine W2_exit ?_ | refine W2_skip ?_ | refine W2_seq ?_ | refine W2_block ?_)
          refine W2.weak (Wk.keep [1, 2, 5, 7, 9, 15, 16] rfl) ?_
          refine W2.wview [0, 1, 2, 3, 4, 7] (by decide) rfl (by (conv => lhs; simp only [go_sem, ibin, ishift]) <;> with_reducible rfl) (by (conv => lhs; simp only [go_sem, ibin, ishift]) <;> with_reducible rfl) ?_
          rw [rep_cI]
          refine still_tail c (p := p) (was := was) (StillI.ok hI2) (StillI.st hI2) (StillI.al hI2) fun er rest => ?_
          simp only [stillH, List.cons_append, List.nil_append]
          (repeat' with_reducible first | refine thn2_nrm ?_ | refine thn2_ret ?_ | refine thn2_ex ?_ | refine blk2_nrm ?_ | refine blk2_ret ?_ | refine blk2_at ?_ | (refine blk2_ex ?_ ?_; decide) | refine W2_sas ?_ | refine W2_ss ?_ | refine W2_sret ?_ | refine W2_sexit ?_ | ((first | apply W2_sra | apply W2_srda | apply W2_runa | apply W2_runda); (conv => lhs; simp only [go_sem, ibin, ishift, wi1]) <;> rfl) | ((first | apply W2_srS | apply W2_runS); decide +kernel; (conv => lhs; simp only [go_sem, ibin, ishift, wi1]) <;> rfl) | ((first | apply W2_sct | apply W2_t2); (conv => lhs; simp only [go_sem]) <;> rfl; rfl) | ((first | apply W2_scf | apply W2_f2); (conv => lhs; simp only [go_sem]) <;> rfl; rfl) | refine W2_ret ?_ | refine W2_exit ?_ | refine W2_skip ?_ | refine W2_seq ?_ | refine W2_block ?_)
          refine ⟨[0, 1, 2, 3, 4], by decide, rfl, ?_⟩
          exact ⟨150 - (i + 1), _, _, by omega, ⟨i + 1, p, was, by omega, hI2, rfl, rfl⟩, rfl, (by first | rfl | ((conv => lhs; simp only [go_sem, ibin, ishift]) <;> rfl))⟩
        · have hed := hk.ed e (List.mem_of_getElem? he)
          have hk2 := Pl.hear_ok hk x.t
          have wm : IntKind.i64.wrap (p.mv + 1) = p.mv + 1 := wi _ (by have := hI.m0; omega) (by have := hI.m1; omega)
          rw [hc] at hk2 ⊢
          rw [wm] at hk2 ⊢
          simp only at hk2 ⊢
          obtain ⟨a1, a2, a3, a4, a5⟩ := hI.st.moved hed hta hta0 htb (q := ⟨p.es, (p.at_.set e.a.toNat 0).set e.b.toNat x.t.a, p.ds.set x.t.dev.toNat ⟨d.broken, true, x.t.seq, x.t.a⟩, p.mv + 1⟩) rfl
          have hI2 : StillI l (i + 1) ⟨p.es, (p.at_.set e.a.toNat 0).set e.b.toNat x.t.a, p.ds.set x.t.dev.toNat ⟨d.broken, true, x.t.seq, x.t.a⟩, p.mv + 1⟩ (was.set x.t.a.toNat e.b) := ⟨a5, hk2, hI.es, by simp only [List.length_set]; exact hI.al, by have := hI.m0; simp only; omega, by have := hI.m1; simp only; omega⟩
          have hmv : p.mv + 1 = (Pl.mk p.es ((p.at_.set e.a.toNat 0).set e.b.toNat x.t.a) (p.ds.set x.t.dev.toNat ⟨d.broken, true, x.t.seq, x.t.a⟩) (p.mv + 1)).mv := rfl
          rw [hI.es] at he
          obtain ⟨w1, w2, _⟩ := works_in hw
          have hdl := hk.dl
          rw [hI.es] at hdl
          have wd : IntKind.i64.wrap x.t.dev = x.t.dev := wi _ (by omega) (by have := hto.dev; omega)
          have wd1 : IntKind.u16.wrap (x.t.dev - 1) = x.t.dev - 1 := wu16 _ (by omega) (by have := hto.dev; omega)
          have wa : IntKind.i64.wrap x.t.a = x.t.a := wi _ (by omega) (by omega)
          have e1 : decide (x.t.k = 1) = true := decide_eq_true hkk
          have e2 : decide (x.t.dev < 1) = false := decide_eq_false (by omega)
          have e3 : decide (x.t.dev > (l.es.length : Int)) = false := decide_eq_false (by omega)
          have e4 : decide (x.t.a < 1) = false := decide_eq_false (by omega)
          have e5 : decide (x.t.a > 30) = false := decide_eq_false (by omega)
          have e6 : decide (p.mv + 1 = p.mv + 1) = true := by simp
          have e7 : decide (e.a = e.a) = true := by simp
          have e8 : decide (e.b = e.b) = true := by simp
          have q1 : decide (p.mv + 1 > p.mv) = true := decide_eq_true (by omega)
          have r0 : (0 : Int) ≤ x.t.dev - 1 := by omega
          have r1 : x.t.dev - 1 < (l.es.length : Int) := by omega
          have r2 : (x.t.dev - 1).toNat < l.es.length := by omega
          have s0 : (0 : Int) ≤ x.t.a := by omega
          have s1 : x.t.a < 31 := by omega
          have s2 : x.t.a.toNat < 31 := by omega
          have s3 : x.t.a.toNat + 1 ≤ 31 := by omega
          generalize Pl.mk p.es ((p.at_.set e.a.toNat 0).set e.b.toNat x.t.a) (p.ds.set x.t.dev.toNat ⟨d.broken, true, x.t.seq, x.t.a⟩) (p.mv + 1) = p2 at hk2 a4 a5 hI2 hmv ⊢
          unfold Pl.h Te.v
          simp only
          ((with_reducible first | apply WO2_finw | apply WO2_fina); ((conv => lhs; simp only [go_sem, ibin, ishift]) <;> with_reducible rfl))
          (repeat' with_reducible first | refine thn2_nrm ?_ | refine thn2_ret ?_ | refine thn2_ex ?_ | refine blk2_nrm ?_ | refine blk2_ret ?_ | refine blk2_at ?_ | (refine blk2_ex ?_ ?_; decide) | refine W2_sas ?_ | refine W2_ss ?_ | refine W2_sret ?_ | refine W2_sexit ?_ | ((first | apply W2_sra | apply W2_srda | apply W2_runa | apply W2_runda); (conv => lhs; simp only [go_sem, ibin, ishift]) <;> rfl) | ((first | apply W2_srS | apply W2_runS); decide +kernel; (conv => lhs; simp only [go_sem, ibin, ishift]) <;> rfl) | ((first | apply W2_sct | apply W2_t2); (conv => lhs; simp only [go_sem]) <;> rfl; rfl) | ((first | apply W2_scf | apply W2_f2); (conv => lhs; simp only [go_sem]) <;> rfl; rfl) | refine W2_ret ?_ | refine W2_exit ?_ | refine W2_skip ?_ | refine W2_seq ?_ | refine W2_block ?_)
          (first | (((with_reducible first | apply W2_scall | apply W2_scalld | apply W2_calla | apply W2_callda | apply run2a_sound); ((conv => lhs; simp only [go_sem, ibin, ishift]) <;> with_reducible rfl))) | ((with_reducible first | apply W2_scallS | apply W2_callS); decide +kernel; ((conv => lhs; simp only [go_sem, ibin, ishift]) <;> with_reducible rfl)))
          refine CK_call [1, 2, 3] (moves_spec c.toTabP p2) (by decide) (by simp) rfl rfl (by first | rfl | (simp only [go_sem, Pl.h]; done) | (simp only [go_sem, Pl.h] <;> rfl)) ?_
          rintro v h' ⟨rfl, rfl⟩
          unfold Pl.h
          rw [← hmv]
          ((with_reducible first | apply WO2_finw | apply WO2_fina); ((conv => lhs; simp only [go_sem, ibin, ishift, q1]) <;> with_reducible rfl))
          (repeat' with_reducible first | refine thn2_nrm ?_ | refine thn2_ret ?_ | refine thn2_ex ?_ | refine blk2_nrm ?_ | refine blk2_ret ?_ | refine blk2_at ?_ | (refine blk2_ex ?_ ?_; decide) | refine W2_sas ?_ | refine W2_ss ?_ | refine W2_sret ?_ | refine W2_sexit ?_ | ((first | apply W2_sra | apply W2_srda | apply W2_runa | apply W2_runda); (conv => lhs; simp only [go_sem, ibin, ishift, e1, e2, e3, e4, e5, wd]) <;> rfl) | ((first | apply W2_srS | apply W2_runS); decide +kernel; (conv => lhs; simp only [go_sem, ibin, ishift, e1, e2, e3, e4, e5, wd]) <;> rfl) | ((first | apply W2_sct | apply W2_t2); (conv => lhs; simp only [go_sem]) <;> rfl; rfl) | ((first | apply W2_scf | apply W2_f2); (conv => lhs; simp only [go_sem]) <;> rfl; rfl) | refine W2_ret ?_ | refine W2_exit ?_ | refine W2_skip ?_ | refine W2_seq ?_ | refine W2_block ?_)
          (first | (((with_reducible first | apply W2_scall | apply W2_scalld | apply W2_calla | apply W2_callda | apply run2a_sound); ((conv => lhs; simp only [go_sem, ibin, ishift, e1, e2, e3, e4, e5, wd]) <;> with_reducible rfl))) | ((with_reducible first | apply W2_scallS | apply W2_callS); decide +kernel; ((conv => lhs; simp only [go_sem, ibin, ishift, e1, e2, e3, e4, e5, wd]) <;> with_reducible rfl)))
          refine CK_call [1, 2, 3] (moves_spec c.toTabP p2) (by decide) (by simp) rfl rfl (by first | rfl | (simp only [go_sem, Pl.h, ← hmv]; done) | (simp only [go_sem, Pl.h, ← hmv] <;> rfl)) ?_
          rintro v h' ⟨rfl, rfl⟩
          unfold Pl.h
          rw [← hmv]
          ((with_reducible first | apply WO2_finw | apply WO2_fina); ((conv => lhs; simp only [go_sem, ibin, ishift, wm, e6]) <;> with_reducible rfl))
          (repeat' with_reducible first | refine thn2_nrm ?_ | refine thn2_ret ?_ | refine thn2_ex ?_ | refine blk2_nrm ?_ | refine blk2_ret ?_ | refine blk2_at ?_ | (refine blk2_ex ?_ ?_; decide) | refine W2_sas ?_ | refine W2_ss ?_ | refine W2_sret ?_ | refine W2_sexit ?_ | ((first | apply W2_sra | apply W2_srda | apply W2_runa | apply W2_runda); (conv => lhs; simp only [go_sem, ibin, ishift, wd1, r0, r1, r2, he, cD]) <;> rfl) | ((first | apply W2_srS | apply W2_runS); decide +kernel; (conv => lhs; simp only [go_sem, ibin, ishift, wd1, r0, r1, r2, he, cD]) <;> rfl) | ((first | apply W2_sct | apply W2_t2); (conv => lhs; simp only [go_sem]) <;> rfl; rfl) | ((first | apply W2_scf | apply W2_f2); (conv => lhs; simp only [go_sem]) <;> rfl; rfl) | refine W2_ret ?_ | refine W2_exit ?_ | refine W2_skip ?_ | refine W2_seq ?_ | refine W2_block ?_)
          (repeat' with_reducible first | refine thn2_nrm ?_ | refine thn2_ret ?_ | refine thn2_ex ?_ | refine blk2_nrm ?_ | refine blk2_ret ?_ | refine blk2_at ?_ | (refine blk2_ex ?_ ?_; decide) | refine W2_sas ?_ | refine W2_ss ?_ | refine W2_sret ?_ | refine W2_sexit ?_ | refine W2_skip ?_ | ((first | apply W2_sct | apply W2_t2); (conv => lhs; simp only [go_sem]) <;> rfl; rfl) | ((first | apply W2_scf | apply W2_f2); (conv => lhs; simp only [go_sem]) <;> rfl; rfl) | refine W2_block ?_ | refine W2_seq ?_ | refine W2_exit ?_)
          (with_reducible first | apply W2_sregH [4, 5, 7] [false, false, false, false, false, false, false, false, false, false, false, false, false, false, false, false, true, false, false] | apply W2_regH [4, 5, 7] [false, false, false, false, false, false, false, false, false, false, false, false, false, false, false, false, true, false, false])
          · decide
          · decide
          · rfl
          ((conv => lhs; simp only [go_sem, ibin, ishift, s0, s1, s2, hlen, a3, e7, wa]) <;> with_reducible rfl)
          refine EH_call [1, 2, 3] (where_spec c.toTabP p2 hk2.al x.t.a) (by decide) (by simp) rfl rfl rfl (by first | rfl | (simp only [go_sem, Pl.h, ← hmv]; done) | (simp only [go_sem, Pl.h, ← hmv] <;> rfl)) ?_
          rintro v h' ⟨rfl, rfl⟩
          rw [a4]
          unfold Pl.h
          rw [← hmv]
          (with_reducible apply WOH_go (by decide); ((conv => lhs; simp only [go_sem, ibin, ishift, e7, e8]) <;> with_reducible rfl))
          refine EH_go ?_
          (repeat' with_reducible first | refine thn2_nrm ?_ | refine thn2_ret ?_ | refine thn2_ex ?_ | refine blk2_nrm ?_ | refine blk2_ret ?_ | refine blk2_at ?_ | (refine blk2_ex ?_ ?_; decide) | refine W2_sas ?_ | refine W2_ss ?_ | refine W2_sret ?_ | refine W2_sexit ?_ | ((first | apply W2_sra | apply W2_srda | apply W2_runa | apply W2_runda); (conv => lhs; simp only [go_sem, ibin, ishift, s0, s1, s3, hlen]) <;> rfl) | ((first | apply W2_srS | apply W2_runS); decide +kernel; (conv => lhs; simp only [go_sem, ibin, ishift, s0, s1, s3, hlen]) <;> rfl) | ((first | apply W2_sct | apply W2_t2); (conv => lhs; simp only [go_sem]) <;> rfl; rfl) | ((first | apply W2_scf | apply W2_f2); (conv => lhs; simp only [go_sem]) <;> rfl; rfl) | refine W2_ret ?_ | refine W2_exit ?_ | refine W2_skip ?_ | refine W2_seq ?_ | refine W2_block ?_)
          rw [show (was.map fun n => SV.p (PV.i .i64 n)).set x.t.a.toNat (SV.p (PV.i .i64 e.b)) = (was.set x.t.a.toNat e.b).map fun n => SV.p (PV.i .i64 n) by rw [List.map_set], hmv]
          generalize was.set x.t.a.toNat e.b = was2 at hI2
          (repeat' with_reducible first | refine thn2_nrm ?_ | refine thn2_ret ?_ | refine thn2_ex ?_ | refine blk2_nrm ?_ | refine blk2_ret ?_ | refine blk2_at ?_ | (refine blk2_ex ?_ ?_; decide) | refine W2_sas ?_ | refine W2_ss ?_ | refine W2_sret ?_ | refine W2_sexit ?_ | ((first | apply W2_sra | apply W2_srda | apply W2_runa | apply W2_runda); (conv => lhs; simp only [go_sem, ibin, ishift, mz0, mz1, Int.le_refl, Int.toNat_natCast]) <;> rfl) | ((first | apply W2_srS | apply W2_runS); decide +kernel; (conv => lhs; simp only [go_sem, ibin, ishift, mz0, mz1, Int.le_refl, Int.toNat_natCast]) <;> rfl) | ((first | apply W2_sct | apply W2_t2); (conv => lhs; simp only [go_sem]) <;> rfl; rfl) | ((first | apply W2_scf | apply W2_f2); (conv => lhs; simp only [go_sem]) <;> rfl; rfl) | refine W2_ret ?_ | refine W2_exit ?_ | refine W2_skip ?_ | refine W2_seq ?_ | refine W2_block ?_)
          refine W2.weak (Wk.keep [1, 2, 5, 7, 9, 15, 16] rfl) ?_
          refine W2.wview [0, 1, 2, 3, 4, 8] (by decide) rfl (by (conv => lhs; simp only [go_sem, ibin, ishift]) <;> with_reducible rfl) (by (conv => lhs; simp only [go_sem, ibin, ishift]) <;> with_reducible rfl) ?_
          rw [rep_cI]
          refine still_tail c (p := p2) (was := was2) (StillI.ok hI2) (StillI.st hI2) (StillI.al hI2) fun er rest => ?_
          simp only [stillH, List.cons_append, List.nil_append]
          (repeat' with_reducible first | refine thn2_nrm ?_ | refine thn2_ret ?_ | refine thn2_ex ?_ | refine blk2_nrm ?_ | refine blk2_ret ?_ | refine blk2_at ?_ | (refine blk2_ex ?_ ?_; decide) | refine W2_sas ?_ | refine W2_ss ?_ | refine W2_sret ?_ | refine W2_sexit ?_ | ((first | apply W2_sra | apply W2_srda | apply W2_runa | apply W2_runda); (conv => lhs; simp only [go_sem, ibin, ishift, wi1]) <;> rfl) | ((first | apply W2_srS | apply W2_runS); decide +kernel; (conv => lhs; simp only [go_sem, ibin, ishift, wi1]) <;> rfl) | ((first | apply W2_sct | apply W2_t2); (conv => lhs; simp only [go_sem]) <;> rfl; rfl) | ((first | apply W2_scf | apply W2_f2); (conv => lhs; simp only [go_sem]) <;> rfl; rfl) | refine W2_ret ?_ | refine W2_exit ?_ | refine W2_skip ?_ | refine W2_seq ?_ | refine W2_block ?_)
          refine ⟨[0, 1, 2, 3, 4], by decide, rfl, ?_⟩
          exact ⟨150 - (i + 1), _, _, by omega, ⟨i + 1, p2, was2, by omega, hI2, rfl, rfl⟩, rfl, (by first | rfl | ((conv => lhs; simp only [go_sem, ibin, ishift]) <;> rfl))⟩
      · have hI1 : StillI l (i + 1) p was := ⟨hI.st, hI.ok, hI.es, hI.al, hI.m0, by have := hI.m1; omega⟩
        (repeat' with_reducible first | refine thn2_nrm ?_ | refine thn2_ret ?_ | refine thn2_ex ?_ | refine blk2_nrm ?_ | refine blk2_ret ?_ | refine blk2_at ?_ | (refine blk2_ex ?_ ?_; decide) | refine W2_sas ?_ | refine W2_ss ?_ | refine W2_sret ?_ | refine W2_sexit ?_ | ((first | apply W2_sra | apply W2_srda | apply W2_runa | apply W2_runda); (conv => lhs; simp only [go_sem, ibin, ishift]) <;> rfl) | ((first | apply W2_srS | apply W2_runS); decide +kernel; (conv => lhs; simp only [go_sem, ibin, ishift]) <;> rfl) | ((first | apply W2_sct | apply W2_t2); (conv => lhs; simp only [go_sem]) <;> rfl; rfl) | ((first | apply W2_scf | apply W2_f2); (conv => lhs; simp only [go_sem]) <;> rfl; rfl) | refine W2_ret ?_ | refine W2_exit ?_ | refine W2_skip ?_ | refine W2_seq ?_ | refine W2_block ?_)
        (((first | with_reducible apply W2_sc | with_reducible apply W2_cond); ((conv => lhs; simp only [go_sem]) <;> with_reducible rfl)) <;> intro hx <;> (try rw [hx]) <;> simp only [Bool.or_eq_true, Bool.and_eq_true, decide_eq_true_eq, Bool.or_eq_false_iff, Bool.and_eq_false_iff, decide_eq_false_iff_not, Bool.not_eq_true', Bool.not_eq_false', bne_iff_ne, beq_iff_eq, not_or, not_and, Decidable.not_not, ne_eq, gt_iff_lt, ge_iff_le, Int.not_lt, Int.not_le] at hx)
        · have hI2 := hI1.set x.a true 4
          (repeat' with_reducible first | refine thn2_nrm ?_ | refine thn2_ret ?_ | refine thn2_ex ?_ | refine blk2_nrm ?_ | refine blk2_ret ?_ | refine blk2_at ?_ | (refine blk2_ex ?_ ?_; decide) | refine W2_sas ?_ | refine W2_ss ?_ | refine W2_sret ?_ | refine W2_sexit ?_ | ((first | apply W2_sra | apply W2_srda | apply W2_runa | apply W2_runda); (conv => lhs; simp only [go_sem, ibin, ishift]) <;> rfl) | ((first | apply W2_srS | apply W2_runS); decide +kernel; (conv => lhs; simp only [go_sem, ibin, ishift]) <;> rfl) | ((first | apply W2_sct | apply W2_t2); (conv => lhs; simp only [go_sem]) <;> rfl; rfl) | ((first | apply W2_scf | apply W2_f2); (conv => lhs; simp only [go_sem]) <;> rfl; rfl) | refine W2_ret ?_ | refine W2_exit ?_ | refine W2_skip ?_ | refine W2_seq ?_ | refine W2_block ?_)
          (first | (((with_reducible first | apply W2_scall | apply W2_scalld | apply W2_calla | apply W2_callda | apply run2a_sound); ((conv => lhs; simp only [go_sem, ibin, ishift]) <;> with_reducible rfl))) | ((with_reducible first | apply W2_scallS | apply W2_callS); decide +kernel; ((conv => lhs; simp only [go_sem, ibin, ishift]) <;> with_reducible rfl)))
          refine CK_call [1, 2, 3] (break_spec c.toTabP p x.a) (by decide) (by simp) rfl rfl (by first | rfl | (simp only [go_sem, Pl.h]; done) | (simp only [go_sem, Pl.h] <;> rfl)) ?_
          rintro v h' ⟨rfl, rfl⟩
          generalize p.set x.a true 4 = r at hI2
          obtain ⟨p2, u, e⟩ := r
          simp only at hI2
          unfold Pl.h Te.v
          ((with_reducible first | apply WO2_finw | apply WO2_fina); ((conv => lhs; simp only [go_sem, ibin, ishift]) <;> with_reducible rfl))
          (repeat' with_reducible first | refine thn2_nrm ?_ | refine thn2_ret ?_ | refine thn2_ex ?_ | refine blk2_nrm ?_ | refine blk2_ret ?_ | refine blk2_at ?_ | (refine blk2_ex ?_ ?_; decide) | refine W2_sas ?_ | refine W2_ss ?_ | refine W2_sret ?_ | refine W2_sexit ?_ | ((first | apply W2_sra | apply W2_srda | apply W2_runa | apply W2_runda); (conv => lhs; simp only [go_sem, ibin, ishift, mz0, mz1, Int.le_refl, Int.toNat_natCast]) <;> rfl) | ((first | apply W2_srS | apply W2_runS); decide +kernel; (conv => lhs; simp only [go_sem, ibin, ishift, mz0, mz1, Int.le_refl, Int.toNat_natCast]) <;> rfl) | ((first | apply W2_sct | apply W2_t2); (conv => lhs; simp only [go_sem]) <;> rfl; rfl) | ((first | apply W2_scf | apply W2_f2); (conv => lhs; simp only [go_sem]) <;> rfl; rfl) | refine W2_ret ?_ | refine W2_exit ?_ | refine W2_skip ?_ | refine W2_seq ?_ | refine W2_block ?_)
          refine W2.weak (Wk.keep [1, 2, 5, 7, 9, 15, 16] rfl) ?_
          refine W2.wview [0, 1, 2, 3, 4, 6] (by decide) rfl (by (conv => lhs; simp only [go_sem, ibin, ishift]) <;> with_reducible rfl) (by (conv => lhs; simp only [go_sem, ibin, ishift]) <;> with_reducible rfl) ?_
          rw [rep_cI]
          refine still_tail c (p := p2) (was := was) (StillI.ok hI2) (StillI.st hI2) (StillI.al hI2) fun er rest => ?_
          simp only [stillH, List.cons_append, List.nil_append]
          (repeat' with_reducible first | refine thn2_nrm ?_ | refine thn2_ret ?_ | refine thn2_ex ?_ | refine blk2_nrm ?_ | refine blk2_ret ?_ | refine blk2_at ?_ | (refine blk2_ex ?_ ?_; decide) | refine W2_sas ?_ | refine W2_ss ?_ | refine W2_sret ?_ | refine W2_sexit ?_ | ((first | apply W2_sra | apply W2_srda | apply W2_runa | apply W2_runda); (conv => lhs; simp only [go_sem, ibin, ishift, wi1]) <;> rfl) | ((first | apply W2_srS | apply W2_runS); decide +kernel; (conv => lhs; simp only [go_sem, ibin, ishift, wi1]) <;> rfl) | ((first | apply W2_sct | apply W2_t2); (conv => lhs; simp only [go_sem]) <;> rfl; rfl) | ((first | apply W2_scf | apply W2_f2); (conv => lhs; simp only [go_sem]) <;> rfl; rfl) | refine W2_ret ?_ | refine W2_exit ?_ | refine W2_skip ?_ | refine W2_seq ?_ | refine W2_block ?_)
          refine ⟨[0, 1, 2, 3, 4], by decide, rfl, ?_⟩
          exact ⟨150 - (i + 1), _, _, by omega, ⟨i + 1, p2, was, by omega, hI2, rfl, rfl⟩, rfl, (by first | rfl | ((conv => lhs; simp only [go_sem, ibin, ishift]) <;> rfl))⟩
        · (repeat' with_reducible first | refine thn2_nrm ?_ | refine thn2_ret ?_ | refine thn2_ex ?_ | refine blk2_nrm ?_ | refine blk2_ret ?_ | refine blk2_at ?_ | (refine blk2_ex ?_ ?_; decide) | refine W2_sas ?_ | refine W2_ss ?_ | refine W2_sret ?_ | refine W2_sexit ?_ | ((first | apply W2_sra | apply W2_srda | apply W2_runa | apply W2_runda); (conv => lhs; simp only [go_sem, ibin, ishift]) <;> rfl) | ((first | apply W2_srS | apply W2_runS); decide +kernel; (conv => lhs; simp only [go_sem, ibin, ishift]) <;> rfl) | ((first | apply W2_sct | apply W2_t2); (conv => lhs; simp only [go_sem]) <;> rfl; rfl) | ((first | apply W2_scf | apply W2_f2); (conv => lhs; simp only [go_sem]) <;> rfl; rfl) | refine W2_ret ?_ | refine W2_exit ?_ | refine W2_skip ?_ | refine W2_seq ?_ | refine W2_block ?_)
          (((first | with_reducible apply W2_sc | with_reducible apply W2_cond); ((conv => lhs; simp only [go_sem]) <;> with_reducible rfl)) <;> intro hx <;> (try rw [hx]) <;> simp only [Bool.or_eq_true, Bool.and_eq_true, decide_eq_true_eq, Bool.or_eq_false_iff, Bool.and_eq_false_iff, decide_eq_false_iff_not, Bool.not_eq_true', Bool.not_eq_false', bne_iff_ne, beq_iff_eq, not_or, not_and, Decidable.not_not, ne_eq, gt_iff_lt, ge_iff_le, Int.not_lt, Int.not_le] at hx)
          · have hI2 := hI1.set x.a false 5
            (repeat' with_reducible first | refine thn2_nrm ?_ | refine thn2_ret ?_ | refine thn2_ex ?_ | refine blk2_nrm ?_ | refine blk2_ret ?_ | refine blk2_at ?_ | (refine blk2_ex ?_ ?_; decide) | refine W2_sas ?_ | refine W2_ss ?_ | refine W2_sret ?_ | refine W2_sexit ?_ | ((first | apply W2_sra | apply W2_srda | apply W2_runa | apply W2_runda); (conv => lhs; simp only [go_sem, ibin, ishift]) <;> rfl) | ((first | apply W2_srS | apply W2_runS); decide +kernel; (conv => lhs; simp only [go_sem, ibin, ishift]) <;> rfl) | ((first | apply W2_sct | apply W2_t2); (conv => lhs; simp only [go_sem]) <;> rfl; rfl) | ((first | apply W2_scf | apply W2_f2); (conv => lhs; simp only [go_sem]) <;> rfl; rfl) | refine W2_ret ?_ | refine W2_exit ?_ | refine W2_skip ?_ | refine W2_seq ?_ | refine W2_block ?_)
            (first | (((with_reducible first | apply W2_scall | apply W2_scalld | apply W2_calla | apply W2_callda | apply run2a_sound); ((conv => lhs; simp only [go_sem, ibin, ishift]) <;> with_reducible rfl))) | ((with_reducible first | apply W2_scallS | apply W2_callS); decide +kernel; ((conv => lhs; simp only [go_sem, ibin, ishift]) <;> with_reducible rfl)))
            refine CK_call [1, 2, 3] (mend_spec c.toTabP p x.a) (by decide) (by simp) rfl rfl (by first | rfl | (simp only [go_sem, Pl.h]; done) | (simp only [go_sem, Pl.h] <;> rfl)) ?_
            rintro v h' ⟨rfl, rfl⟩
            generalize p.set x.a false 5 = r at hI2
            obtain ⟨p2, u, e⟩ := r
            simp only at hI2
            unfold Pl.h Te.v
            ((with_reducible first | apply WO2_finw | apply WO2_fina); ((conv => lhs; simp only [go_sem, ibin, ishift]) <;> with_reducible rfl))
            (repeat' with_reducible first | refine thn2_nrm ?_ | refine thn2_ret ?_ | refine thn2_ex ?_ | refine blk2_nrm ?_ | refine blk2_ret ?_ | refine blk2_at ?_ | (refine blk2_ex ?_ ?_; decide) | refine W2_sas ?_ | refine W2_ss ?_ | refine W2_sret ?_ | refine W2_sexit ?_ | ((first | apply W2_sra | apply W2_srda | apply W2_runa | apply W2_runda); (conv => lhs; simp only [go_sem, ibin, ishift, mz0, mz1, Int.le_refl, Int.toNat_natCast]) <;> rfl) | ((first | apply W2_srS | apply W2_runS); decide +kernel; (conv => lhs; simp only [go_sem, ibin, ishift, mz0, mz1, Int.le_refl, Int.toNat_natCast]) <;> rfl) | ((first | apply W2_sct | apply W2_t2); (conv => lhs; simp only [go_sem]) <;> rfl; rfl) | ((first | apply W2_scf | apply W2_f2); (conv => lhs; simp only [go_sem]) <;> rfl; rfl) | refine W2_ret ?_ | refine W2_exit ?_ | refine W2_skip ?_ | refine W2_seq ?_ | refine W2_block ?_)
            refine W2.weak (Wk.keep [1, 2, 5, 7, 9, 15, 16] rfl) ?_
            refine W2.wview [0, 1, 2, 3, 4, 6] (by decide) rfl (by (conv => lhs; simp only [go_sem, ibin, ishift]) <;> with_reducible rfl) (by (conv => lhs; simp only [go_sem, ibin, ishift]) <;> with_reducible rfl) ?_
            rw [rep_cI]
            refine still_tail c (p := p2) (was := was) (StillI.ok hI2) (StillI.st hI2) (StillI.al hI2) fun er rest => ?_
            simp only [stillH, List.cons_append, List.nil_append]
            (repeat' with_reducible first | refine thn2_nrm ?_ | refine thn2_ret ?_ | refine thn2_ex ?_ | refine blk2_nrm ?_ | refine blk2_ret ?_ | refine blk2_at ?_ | (refine blk2_ex ?_ ?_; decide) | refine W2_sas ?_ | refine W2_ss ?_ | refine W2_sret ?_ | refine W2_sexit ?_ | ((first | apply W2_sra | apply W2_srda | apply W2_runa | apply W2_runda); (conv => lhs; simp only [go_sem, ibin, ishift, wi1]) <;> rfl) | ((first | apply W2_srS | apply W2_runS); decide +kernel; (conv => lhs; simp only [go_sem, ibin, ishift, wi1]) <;> rfl) | ((first | apply W2_sct | apply W2_t2); (conv => lhs; simp only [go_sem]) <;> rfl; rfl) | ((first | apply W2_scf | apply W2_f2); (conv => lhs; simp only [go_sem]) <;> rfl; rfl) | refine W2_ret ?_ | refine W2_exit ?_ | refine W2_skip ?_ | refine W2_seq ?_ | refine W2_block ?_)
            refine ⟨[0, 1, 2, 3, 4], by decide, rfl, ?_⟩
            exact ⟨150 - (i + 1), _, _, by omega, ⟨i + 1, p2, was, by omega, hI2, rfl, rfl⟩, rfl, (by first | rfl | ((conv => lhs; simp only [go_sem, ibin, ishift]) <;> rfl))⟩
          · (repeat' with_reducible first | refine thn2_nrm ?_ | refine thn2_ret ?_ | refine thn2_ex ?_ | refine blk2_nrm ?_ | refine blk2_ret ?_ | refine blk2_at ?_ | (refine blk2_ex ?_ ?_; decide) | refine W2_sas ?_ | refine W2_ss ?_ | refine W2_sret ?_ | refine W2_sexit ?_ | ((first | apply W2_sra | apply W2_srda | apply W2_runa | apply W2_runda); (conv => lhs; simp only [go_sem, ibin, ishift, mz0, mz1, Int.le_refl, Int.toNat_natCast]) <;> rfl) | ((first | apply W2_srS | apply W2_runS); decide +kernel; (conv => lhs; simp only [go_sem, ibin, ishift, mz0, mz1, Int.le_refl, Int.toNat_natCast]) <;> rfl) | ((first | apply W2_sct | apply W2_t2); (conv => lhs; simp only [go_sem]) <;> rfl; rfl) | ((first | apply W2_scf | apply W2_f2); (conv => lhs; simp only [go_sem]) <;> rfl; rfl) | refine W2_ret ?_ | refine W2_exit ?_ | refine W2_skip ?_ | refine W2_seq ?_ | refine W2_block ?_)
            refine W2.weak (Wk.keep [1, 2, 5, 7, 9, 15, 16] rfl) ?_
            refine W2.wview [0, 1, 2, 3, 4, 6] (by decide) rfl (by (conv => lhs; simp only [go_sem, ibin, ishift]) <;> with_reducible rfl) (by (conv => lhs; simp only [go_sem, ibin, ishift]) <;> with_reducible rfl) ?_
            rw [rep_cI]
            refine still_tail c (p := p) (was := was) (StillI.ok hI1) (StillI.st hI1) (StillI.al hI1) fun er rest => ?_
            simp only [stillH, List.cons_append, List.nil_append]
            (repeat' with_reducible first | refine thn2_nrm ?_ | refine thn2_ret ?_ | refine thn2_ex ?_ | refine blk2_nrm ?_ | refine blk2_ret ?_ | refine blk2_at ?_ | (refine blk2_ex ?_ ?_; decide) | refine W2_sas ?_ | refine W2_ss ?_ | refine W2_sret ?_ | refine W2_sexit ?_ | ((first | apply W2_sra | apply W2_srda | apply W2_runa | apply W2_runda); (conv => lhs; simp only [go_sem, ibin, ishift, wi1]) <;> rfl) | ((first | apply W2_srS | apply W2_runS); decide +kernel; (conv => lhs; simp only [go_sem, ibin, ishift, wi1]) <;> rfl) | ((first | apply W2_sct | apply W2_t2); (conv => lhs; simp only [go_sem]) <;> rfl; rfl) | ((first | apply W2_scf | apply W2_f2); (conv => lhs; simp only [go_sem]) <;> rfl; rfl) | refine W2_ret ?_ | refine W2_exit ?_ | refine W2_skip ?_ | refine W2_seq ?_ | refine W2_block ?_)
            refine ⟨[0, 1, 2, 3, 4], by decide, rfl, ?_⟩
            exact ⟨150 - (i + 1), _, _, by omega, ⟨i + 1, p, was, by omega, hI1, rfl, rfl⟩, rfl, (by first | rfl | ((conv => lhs; simp only [go_sem, ibin, ishift]) <;> rfl))⟩
end Go.Proofs.Ytpblhjaghkkdhaa.Ab
