/- Chapter 10: the document's calls. -/
import Derived.Test.YtpgoemmjhnnmoaaY10z
namespace Go.Proofs.Ytpgoemmjhnnmoaa.Ab
open Go
set_option linter.unusedVariables false
set_option linter.unusedSimpArgs false
variable {T : AT}
theorem Ret2.nilL {k f : Nat} {a b : SV} {h : SH} {R : SV → SH → Prop} {esz : Nat} (r : Ret2 T k f [a, b, .fz esz []] h R) : Ret2 T k f [a, b, .nils] h R := r.nil3
set_option maxHeartbeats 1000000 in
theorem rput_spec (c : TabR10 T) (t : Tab) (hk : t.Ok) (hl : t.q.length < 1000000) (tote : Int) (ns : List Int) (hn : ns.length ≤ 1000000) :
    Ret2 T 0 i_stillageref10_Put [(.agg [.fz 1 (t.hold.map cI), .fz 2 (t.q.map cQ)]), .i .i64 tote, .fz 1 (ns.map cI)] [] (fun v h' => v = .tup [(.agg [.fz 1 ((t.put tote ns).1.hold.map cI), .fz 2 ((t.put tote ns).1.q.map cQ)]), .b (t.put tote ns).2.1, .i .i64 (t.put tote ns).2.2] ∧ h' = []) := by
  refine Ret2_fnv c.put rfl rfl ?_
  (repeat' with_reducible first | refine thn2_nrm ?_ | refine thn2_ret ?_ | refine thn2_ex ?_ | refine blk2_nrm ?_ | refine blk2_ret ?_ | refine blk2_at ?_ | (refine blk2_ex ?_ ?_; decide) | refine W2_sas ?_ | refine W2_ss ?_ | refine W2_sret ?_ | refine W2_sexit ?_ | ((first | apply W2_sra | apply W2_srda | apply W2_runa | apply W2_runda); (conv => lhs; simp only [go_sem, ibin, ishift]) <;> rfl) | ((first | apply W2_sct | apply W2_t2); (conv => lhs; simp only [go_sem]) <;> rfl; rfl) | ((first | apply W2_scf | apply W2_f2); (conv => lhs; simp only [go_sem]) <;> rfl; rfl) | refine W2_ret ?_ | refine W2_exit ?_ | refine W2_skip ?_ | refine W2_seq ?_ | refine W2_block ?_)
  ((with_reducible first | apply W2_scall | apply W2_scalld | apply W2_calla | apply W2_callda | apply run2a_sound); ((conv => lhs; simp only [go_sem, ibin, ishift]) <;> with_reducible rfl))
  refine CK_pure (routside_spec c t tote ns (by omega)) rfl ?_
  rintro v h' ⟨rfl, rfl⟩
  by_cases hbad : t.out tote ns = true ∨ ns = []
  · have he : t.put tote ns = (t, false, 1) := by rw [Tab.put, if_pos hbad]
    have hd : (t.out tote ns || decide ((ns.length : Int) = 0)) = true := by
      rcases hbad with h | h
      · rw [h]; rfl
      · subst h; simp
    ((with_reducible first | apply WO2_finw | apply WO2_fina); ((conv => lhs; simp only [go_sem, ibin, ishift, hd]) <;> with_reducible rfl))
    (repeat' with_reducible first | refine thn2_nrm ?_ | refine thn2_ret ?_ | refine thn2_ex ?_ | refine blk2_nrm ?_ | refine blk2_ret ?_ | refine blk2_at ?_ | (refine blk2_ex ?_ ?_; decide) | refine W2_sas ?_ | refine W2_ss ?_ | refine W2_sret ?_ | refine W2_sexit ?_ | ((first | apply W2_sra | apply W2_srda | apply W2_runa | apply W2_runda); (conv => lhs; simp only [go_sem, ibin, ishift]) <;> rfl) | ((first | apply W2_sct | apply W2_t2); (conv => lhs; simp only [go_sem]) <;> rfl; rfl) | ((first | apply W2_scf | apply W2_f2); (conv => lhs; simp only [go_sem]) <;> rfl; rfl) | refine W2_ret ?_ | refine W2_exit ?_ | refine W2_skip ?_ | refine W2_seq ?_ | refine W2_block ?_)
    refine ⟨by first | exact .inr rfl | exact .inl rfl, _, _, (by (conv => lhs; simp only [go_sem, ibin, ishift]) <;> with_reducible rfl), (by (conv => lhs; simp only [go_sem, ibin, ishift]) <;> with_reducible rfl), ?_⟩
    refine ⟨[], by decide, rfl, ?_⟩
    rw [he]
    exact ⟨rfl, rfl⟩
  · have ho : t.out tote ns = false := by
      cases h : t.out tote ns with
      | true => exact (hbad (.inl h)).elim
      | false => rfl
    have hne : ns ≠ [] := fun h => hbad (.inr h)
    have hln : 0 < ns.length := List.length_pos_iff.2 hne
    have hd : decide ((ns.length : Int) = 0) = false := decide_eq_false (by omega)
    rw [ho]
    ((with_reducible first | apply WO2_finw | apply WO2_fina); ((conv => lhs; simp only [go_sem, ibin, ishift, hd]) <;> with_reducible rfl))
    (repeat' with_reducible first | refine thn2_nrm ?_ | refine thn2_ret ?_ | refine thn2_ex ?_ | refine blk2_nrm ?_ | refine blk2_ret ?_ | refine blk2_at ?_ | (refine blk2_ex ?_ ?_; decide) | refine W2_sas ?_ | refine W2_ss ?_ | refine W2_sret ?_ | refine W2_sexit ?_ | ((first | apply W2_sra | apply W2_srda | apply W2_runa | apply W2_runda); (conv => lhs; simp only [go_sem, ibin, ishift]) <;> rfl) | ((first | apply W2_sct | apply W2_t2); (conv => lhs; simp only [go_sem]) <;> rfl; rfl) | ((first | apply W2_scf | apply W2_f2); (conv => lhs; simp only [go_sem]) <;> rfl; rfl) | refine W2_ret ?_ | refine W2_exit ?_ | refine W2_skip ?_ | refine W2_seq ?_ | refine W2_block ?_)
    ((with_reducible first | apply W2_scall | apply W2_scalld | apply W2_calla | apply W2_callda | apply run2a_sound); ((conv => lhs; simp only [go_sem, ibin, ishift]) <;> with_reducible rfl))
    refine CK_pure (rfind_spec c t tote (by omega)) rfl ?_
    rintro v h' ⟨rfl, rfl⟩
    cases hf : qfind t.q tote with
    | some i =>
      have he : t.put tote ns = (t, false, 2) := by rw [Tab.put, if_neg hbad, hf]
      have hd : decide ((i : Int) ≥ 0) = true := decide_eq_true (by omega)
      ((with_reducible first | apply WO2_finw | apply WO2_fina); ((conv => lhs; simp only [go_sem, ibin, ishift, posZ, hd]) <;> with_reducible rfl))
      (repeat' with_reducible first | refine thn2_nrm ?_ | refine thn2_ret ?_ | refine thn2_ex ?_ | refine blk2_nrm ?_ | refine blk2_ret ?_ | refine blk2_at ?_ | (refine blk2_ex ?_ ?_; decide) | refine W2_sas ?_ | refine W2_ss ?_ | refine W2_sret ?_ | refine W2_sexit ?_ | ((first | apply W2_sra | apply W2_srda | apply W2_runa | apply W2_runda); (conv => lhs; simp only [go_sem, ibin, ishift]) <;> rfl) | ((first | apply W2_sct | apply W2_t2); (conv => lhs; simp only [go_sem]) <;> rfl; rfl) | ((first | apply W2_scf | apply W2_f2); (conv => lhs; simp only [go_sem]) <;> rfl; rfl) | refine W2_ret ?_ | refine W2_exit ?_ | refine W2_skip ?_ | refine W2_seq ?_ | refine W2_block ?_)
      refine ⟨by first | exact .inr rfl | exact .inl rfl, _, _, (by (conv => lhs; simp only [go_sem, ibin, ishift]) <;> with_reducible rfl), (by (conv => lhs; simp only [go_sem, ibin, ishift]) <;> with_reducible rfl), ?_⟩
      refine ⟨[], by decide, rfl, ?_⟩
      rw [he]
      exact ⟨rfl, rfl⟩
    | none =>
      have he : t.put tote ns = ((Tab.g ⟨t.hold, t.q ++ [⟨tote, ns⟩]⟩).1, decide (0 < (Tab.g ⟨t.hold, t.q ++ [⟨tote, ns⟩]⟩).2.length), 0) := by rw [Tab.put, if_neg hbad, hf]
      obtain ⟨o1, o2, o3⟩ := out_in ho
      have hm : decide ((-1 : Int) ≥ 0) = false := by decide
      have hq : Tab.Ok ⟨t.hold, t.q ++ [⟨tote, ns⟩]⟩ := ⟨fun c hc => by
        rcases List.mem_append.1 hc with h | h
        · exact hk.q c h
        · rw [List.mem_singleton.1 h]; exact ⟨o3, hn⟩, hk.hl⟩
      have gs := rgrants_spec c ⟨t.hold, t.q ++ [⟨tote, ns⟩]⟩ hq (by simp; omega)
      have hroom1 : t.q.length * 32 ≤ room := by simp only [room]; omega
      have hroom2 : (t.q.length + 1) * 32 ≤ room := by simp only [room]; omega
      generalize hG : Tab.g ⟨t.hold, t.q ++ [⟨tote, ns⟩]⟩ = G at he gs
      rw [he]
      ((with_reducible first | apply WO2_finw | apply WO2_fina); ((conv => lhs; simp only [go_sem, ibin, ishift, posZ, hm]) <;> with_reducible rfl))
      (repeat' with_reducible first | refine thn2_nrm ?_ | refine thn2_ret ?_ | refine thn2_ex ?_ | refine blk2_nrm ?_ | refine blk2_ret ?_ | refine blk2_at ?_ | (refine blk2_ex ?_ ?_; decide) | refine W2_sas ?_ | refine W2_ss ?_ | refine W2_sret ?_ | refine W2_sexit ?_ | ((first | apply W2_sra | apply W2_srda | apply W2_runa | apply W2_runda); (conv => lhs; simp only [go_sem, ibin, ishift, hroom1, hroom2, Nat.zero_add]) <;> rfl) | ((first | apply W2_sct | apply W2_t2); (conv => lhs; simp only [go_sem]) <;> rfl; rfl) | ((first | apply W2_scf | apply W2_f2); (conv => lhs; simp only [go_sem]) <;> rfl; rfl) | refine W2_ret ?_ | refine W2_exit ?_ | refine W2_skip ?_ | refine W2_seq ?_ | refine W2_block ?_)
      have hmq : t.q.map cQ ++ [[.i .i64 tote, .fz 1 (ns.map cI)]] = (t.q ++ [(⟨tote, ns⟩ : Clm)]).map cQ := by simp [cQ]
      have hlq : t.q.length + 1 = (t.q ++ [(⟨tote, ns⟩ : Clm)]).length := by simp
      rw [hmq, hlq]
      generalize (t.q ++ [(⟨tote, ns⟩ : Clm)]) = q' at gs
      refine W2.wfrz 5 rfl (by (conv => lhs; simp only [go_sem, ibin, ishift]) <;> with_reducible rfl) (by (conv => lhs; simp only [go_sem, ibin, ishift]) <;> with_reducible rfl) ?_
      ((with_reducible first | apply W2_scall | apply W2_scalld | apply W2_calla | apply W2_callda | apply run2a_sound); ((conv => lhs; simp only [go_sem, ibin, ishift]) <;> with_reducible rfl))
      refine CK_pure gs rfl ?_
      rintro v h' ⟨rfl, rfl⟩
      ((with_reducible first | apply WO2_finw | apply WO2_fina); ((conv => lhs; simp only [go_sem, ibin, ishift]) <;> with_reducible rfl))
      (repeat' with_reducible first | refine thn2_nrm ?_ | refine thn2_ret ?_ | refine thn2_ex ?_ | refine blk2_nrm ?_ | refine blk2_ret ?_ | refine blk2_at ?_ | (refine blk2_ex ?_ ?_; decide) | refine W2_sas ?_ | refine W2_ss ?_ | refine W2_sret ?_ | refine W2_sexit ?_ | ((first | apply W2_sra | apply W2_srda | apply W2_runa | apply W2_runda); (conv => lhs; simp only [go_sem, ibin, ishift]) <;> rfl) | ((first | apply W2_sct | apply W2_t2); (conv => lhs; simp only [go_sem]) <;> rfl; rfl) | ((first | apply W2_scf | apply W2_f2); (conv => lhs; simp only [go_sem]) <;> rfl; rfl) | refine W2_ret ?_ | refine W2_exit ?_ | refine W2_skip ?_ | refine W2_seq ?_ | refine W2_block ?_)
      refine ⟨by first | exact .inr rfl | exact .inl rfl, _, _, (by (conv => lhs; simp only [go_sem, ibin, ishift]) <;> with_reducible rfl), (by (conv => lhs; simp only [go_sem, ibin, ishift]) <;> with_reducible rfl), ?_⟩
      refine ⟨[], by decide, rfl, ?_⟩
      refine ⟨?_, rfl⟩
      have : decide ((G.2.length : Int) > 0) = decide (0 < G.2.length) := by congr 1; simp
      rw [← this]; rfl
theorem rrelease_spec (c : TabR10 T) (t : Tab) (hk : t.Ok) (hl : t.q.length ≤ 1000000) (tote node : Int) :
    Ret2 T 0 i_stillageref10_Release [(.agg [.fz 1 (t.hold.map cI), .fz 2 (t.q.map cQ)]), .i .i64 tote, .i .i64 node] [] (fun v h' => v = .tup [(.agg [.fz 1 ((t.release tote node).1.hold.map cI), .fz 2 ((t.release tote node).1.q.map cQ)]), .fz 1 ((t.release tote node).2.1.map cI), .i .i64 (t.release tote node).2.2] ∧ h' = []) := by
  refine Ret2_fnv c.release rfl rfl ?_
  (repeat' with_reducible first | refine thn2_nrm ?_ | refine thn2_ret ?_ | refine thn2_ex ?_ | refine blk2_nrm ?_ | refine blk2_ret ?_ | refine blk2_at ?_ | (refine blk2_ex ?_ ?_; decide) | refine W2_sas ?_ | refine W2_ss ?_ | refine W2_sret ?_ | refine W2_sexit ?_ | ((first | apply W2_sra | apply W2_srda | apply W2_runa | apply W2_runda); (conv => lhs; simp only [go_sem, ibin, ishift]) <;> rfl) | ((first | apply W2_sct | apply W2_t2); (conv => lhs; simp only [go_sem]) <;> rfl; rfl) | ((first | apply W2_scf | apply W2_f2); (conv => lhs; simp only [go_sem]) <;> rfl; rfl) | refine W2_ret ?_ | refine W2_exit ?_ | refine W2_skip ?_ | refine W2_seq ?_ | refine W2_block ?_)
  ((with_reducible first | apply W2_scall | apply W2_scalld | apply W2_calla | apply W2_callda | apply run2a_sound); ((conv => lhs; simp only [go_sem, ibin, ishift]) <;> with_reducible rfl))
  refine CK_frz 2 rfl (args' := [(.agg [.fz 1 (t.hold.map cI), .fz 2 (t.q.map cQ)]), .i .i64 tote, .fz 1 ([node].map cI)]) (by first | rfl | ((conv => lhs; simp only [go_sem, ibin, ishift]) <;> rfl)) (by (conv => lhs; simp only [go_sem, ibin, ishift]) <;> with_reducible rfl) (by (conv => lhs; simp only [go_sem, ibin, ishift]) <;> with_reducible rfl) ?_
  refine CK_pure (routside_spec c t tote [node] (by simp)) rfl ?_
  rintro v h' ⟨rfl, rfl⟩
  cases ho : t.out tote [node] with
  | true =>
    have he : t.release tote node = (t, [], 1) := by rw [Tab.release, if_pos ho]
    rw [he]
    ((with_reducible first | apply WO2_finw | apply WO2_fina); ((conv => lhs; simp only [go_sem, ibin, ishift]) <;> with_reducible rfl))
    ((repeat' with_reducible first | refine thn2_nrm ?_ | refine thn2_ret ?_ | refine thn2_ex ?_ | refine blk2_nrm ?_ | refine blk2_ret ?_ | refine blk2_at ?_ | (refine blk2_ex ?_ ?_; decide) | refine W2_sas ?_ | refine W2_ss ?_ | refine W2_sret ?_ | refine W2_sexit ?_ | refine W2_skip ?_ | ((first | apply W2_sct | apply W2_t2); (conv => lhs; simp only [go_sem]) <;> rfl; rfl) | ((first | apply W2_scf | apply W2_f2); (conv => lhs; simp only [go_sem]) <;> rfl; rfl) | refine W2_block ?_ | refine W2_seq ?_ | refine W2_exit ?_); (with_reducible first | apply W2_sra | apply W2_srda | apply W2_runa | apply W2_runda); ((conv => lhs; simp only [go_sem, ibin, ishift]) <;> with_reducible rfl))
    refine W2.weak (Wk.nilf 7 1 rfl) ?_
    (repeat' with_reducible first | refine thn2_nrm ?_ | refine thn2_ret ?_ | refine thn2_ex ?_ | refine blk2_nrm ?_ | refine blk2_ret ?_ | refine blk2_at ?_ | (refine blk2_ex ?_ ?_; decide) | refine W2_sas ?_ | refine W2_ss ?_ | refine W2_sret ?_ | refine W2_sexit ?_ | ((first | apply W2_sra | apply W2_srda | apply W2_runa | apply W2_runda); (conv => lhs; simp only [go_sem, ibin, ishift]) <;> rfl) | ((first | apply W2_sct | apply W2_t2); (conv => lhs; simp only [go_sem]) <;> rfl; rfl) | ((first | apply W2_scf | apply W2_f2); (conv => lhs; simp only [go_sem]) <;> rfl; rfl) | refine W2_ret ?_ | refine W2_exit ?_ | refine W2_skip ?_ | refine W2_seq ?_ | refine W2_block ?_)
    refine ⟨by first | exact .inr rfl | exact .inl rfl, _, _, (by (conv => lhs; simp only [go_sem, ibin, ishift]) <;> with_reducible rfl), (by (conv => lhs; simp only [go_sem, ibin, ishift]) <;> with_reducible rfl), ?_⟩
    refine ⟨[], by decide, rfl, ?_⟩
    exact ⟨rfl, rfl⟩
  | false =>
    obtain ⟨o1, o2, o3⟩ := out_in ho
    obtain ⟨h0, h1⟩ := o3 node (by simp)
    obtain ⟨m, rfl⟩ := Int.eq_ofNat_of_zero_le h0
    have hml : m < t.hold.length := by omega
    have hg := List.getElem?_eq_getElem hml
    generalize t.hold[m] = x at hg
    ((with_reducible first | apply WO2_finw | apply WO2_fina); ((conv => lhs; simp only [go_sem, ibin, ishift]) <;> with_reducible rfl))
    by_cases hx : x = tote
    · have hd : decide (x = tote) = true := decide_eq_true hx
      have he : t.release tote (m : Int) = ((Tab.g ⟨t.hold.set m 0, t.q⟩).1, (Tab.g ⟨t.hold.set m 0, t.q⟩).2, 0) := by
        rw [Tab.release, if_neg (by rw [ho]; simp), if_neg (by rw [Int.toNat_natCast, hg]; simpa using hx)]; rfl
      have hk' : Tab.Ok ⟨t.hold.set m 0, t.q⟩ := ⟨fun d hd => by simp only [List.length_set]; exact hk.q d hd, by simp only [List.length_set]; exact hk.hl⟩
      have gs := rgrants_spec c ⟨t.hold.set m 0, t.q⟩ hk' hl
      have hroom1 : t.hold.length * 8 ≤ room := by simp only [room]; have := hk.hl; omega
      have hset : (t.hold.map cI).set m [.i .i64 0] = (t.hold.set m 0).map cI := by rw [List.map_set]; rfl
      have hsl : t.hold.length = (t.hold.set m 0).length := by simp
      generalize hG : Tab.g ⟨t.hold.set m 0, t.q⟩ = G at he gs
      rw [he]
      simp only at gs
      generalize hld : t.hold.set m 0 = hd' at hset hsl gs
      (repeat' with_reducible first | refine thn2_nrm ?_ | refine thn2_ret ?_ | refine thn2_ex ?_ | refine blk2_nrm ?_ | refine blk2_ret ?_ | refine blk2_at ?_ | (refine blk2_ex ?_ ?_; decide) | refine W2_sas ?_ | refine W2_ss ?_ | refine W2_sret ?_ | refine W2_sexit ?_ | ((first | apply W2_sra | apply W2_srda | apply W2_runa | apply W2_runda); (conv => lhs; simp only [go_sem, ibin, ishift, hg, h0, h1, hml, cI, hd, hroom1, hset, Nat.zero_add]) <;> rfl) | ((first | apply W2_sct | apply W2_t2); (conv => lhs; simp only [go_sem]) <;> rfl; rfl) | ((first | apply W2_scf | apply W2_f2); (conv => lhs; simp only [go_sem]) <;> rfl; rfl) | refine W2_ret ?_ | refine W2_exit ?_ | refine W2_skip ?_ | refine W2_seq ?_ | refine W2_block ?_)
      rw [hsl]
      refine W2.wfrz 4 rfl (by (conv => lhs; simp only [go_sem, ibin, ishift]) <;> with_reducible rfl) (by (conv => lhs; simp only [go_sem, ibin, ishift]) <;> with_reducible rfl) ?_
      ((with_reducible first | apply W2_scall | apply W2_scalld | apply W2_calla | apply W2_callda | apply run2a_sound); ((conv => lhs; simp only [go_sem, ibin, ishift]) <;> with_reducible rfl))
      refine CK_pure gs rfl ?_
      rintro v h' ⟨rfl, rfl⟩
      ((with_reducible first | apply WO2_finw | apply WO2_fina); ((conv => lhs; simp only [go_sem, ibin, ishift]) <;> with_reducible rfl))
      (repeat' with_reducible first | refine thn2_nrm ?_ | refine thn2_ret ?_ | refine thn2_ex ?_ | refine blk2_nrm ?_ | refine blk2_ret ?_ | refine blk2_at ?_ | (refine blk2_ex ?_ ?_; decide) | refine W2_sas ?_ | refine W2_ss ?_ | refine W2_sret ?_ | refine W2_sexit ?_ | ((first | apply W2_sra | apply W2_srda | apply W2_runa | apply W2_runda); (conv => lhs; simp only [go_sem, ibin, ishift]) <;> rfl) | ((first | apply W2_sct | apply W2_t2); (conv => lhs; simp only [go_sem]) <;> rfl; rfl) | ((first | apply W2_scf | apply W2_f2); (conv => lhs; simp only [go_sem]) <;> rfl; rfl) | refine W2_ret ?_ | refine W2_exit ?_ | refine W2_skip ?_ | refine W2_seq ?_ | refine W2_block ?_)
      refine ⟨by first | exact .inr rfl | exact .inl rfl, _, _, (by (conv => lhs; simp only [go_sem, ibin, ishift]) <;> with_reducible rfl), (by (conv => lhs; simp only [go_sem, ibin, ishift]) <;> with_reducible rfl), ?_⟩
      refine ⟨[], by decide, rfl, ?_⟩
      exact ⟨rfl, rfl⟩
    · have hd : decide (x = tote) = false := decide_eq_false hx
      have he : t.release tote (m : Int) = (t, [], 4) := by
        rw [Tab.release, if_neg (by rw [ho]; simp), if_pos (by rw [Int.toNat_natCast, hg]; simpa using hx)]
      rw [he]
      ((repeat' with_reducible first | refine thn2_nrm ?_ | refine thn2_ret ?_ | refine thn2_ex ?_ | refine blk2_nrm ?_ | refine blk2_ret ?_ | refine blk2_at ?_ | (refine blk2_ex ?_ ?_; decide) | refine W2_sas ?_ | refine W2_ss ?_ | refine W2_sret ?_ | refine W2_sexit ?_ | refine W2_skip ?_ | ((first | apply W2_sct | apply W2_t2); (conv => lhs; simp only [go_sem]) <;> rfl; rfl) | ((first | apply W2_scf | apply W2_f2); (conv => lhs; simp only [go_sem]) <;> rfl; rfl) | refine W2_block ?_ | refine W2_seq ?_ | refine W2_exit ?_); (with_reducible first | apply W2_sra | apply W2_srda | apply W2_runa | apply W2_runda); ((conv => lhs; simp only [go_sem, ibin, ishift, hg, h0, h1, hml, cI, hd]) <;> with_reducible rfl))
      ((repeat' with_reducible first | refine thn2_nrm ?_ | refine thn2_ret ?_ | refine thn2_ex ?_ | refine blk2_nrm ?_ | refine blk2_ret ?_ | refine blk2_at ?_ | (refine blk2_ex ?_ ?_; decide) | refine W2_sas ?_ | refine W2_ss ?_ | refine W2_sret ?_ | refine W2_sexit ?_ | refine W2_skip ?_ | ((first | apply W2_sct | apply W2_t2); (conv => lhs; simp only [go_sem]) <;> rfl; rfl) | ((first | apply W2_scf | apply W2_f2); (conv => lhs; simp only [go_sem]) <;> rfl; rfl) | refine W2_block ?_ | refine W2_seq ?_ | refine W2_exit ?_); (with_reducible first | apply W2_sra | apply W2_srda | apply W2_runa | apply W2_runda); ((conv => lhs; simp only [go_sem, ibin, ishift]) <;> with_reducible rfl))
      refine W2.weak (Wk.nilf 7 1 rfl) ?_
      (repeat' with_reducible first | refine thn2_nrm ?_ | refine thn2_ret ?_ | refine thn2_ex ?_ | refine blk2_nrm ?_ | refine blk2_ret ?_ | refine blk2_at ?_ | (refine blk2_ex ?_ ?_; decide) | refine W2_sas ?_ | refine W2_ss ?_ | refine W2_sret ?_ | refine W2_sexit ?_ | ((first | apply W2_sra | apply W2_srda | apply W2_runa | apply W2_runda); (conv => lhs; simp only [go_sem, ibin, ishift]) <;> rfl) | ((first | apply W2_sct | apply W2_t2); (conv => lhs; simp only [go_sem]) <;> rfl; rfl) | ((first | apply W2_scf | apply W2_f2); (conv => lhs; simp only [go_sem]) <;> rfl; rfl) | refine W2_ret ?_ | refine W2_exit ?_ | refine W2_skip ?_ | refine W2_seq ?_ | refine W2_block ?_)
      refine ⟨by first | exact .inr rfl | exact .inl rfl, _, _, (by (conv => lhs; simp only [go_sem, ibin, ishift]) <;> with_reducible rfl), (by (conv => lhs; simp only [go_sem, ibin, ishift]) <;> with_reducible rfl), ?_⟩
      refine ⟨[], by decide, rfl, ?_⟩
      exact ⟨rfl, rfl⟩
theorem rdrop_spec (c : TabR10 T) (t : Tab) (hk : t.Ok) (hl : t.q.length ≤ 1000000) (tote : Int) :
    Ret2 T 0 i_stillageref10_Drop [(.agg [.fz 1 (t.hold.map cI), .fz 2 (t.q.map cQ)]), .i .i64 tote] [] (fun v h' => v = .tup [(.agg [.fz 1 ((t.drop tote).1.hold.map cI), .fz 2 ((t.drop tote).1.q.map cQ)]), .fz 1 ((t.drop tote).2.1.map cI), .i .i64 (t.drop tote).2.2] ∧ h' = []) := by
  refine Ret2_fnv c.drop rfl rfl ?_
  (repeat' with_reducible first | refine thn2_nrm ?_ | refine thn2_ret ?_ | refine thn2_ex ?_ | refine blk2_nrm ?_ | refine blk2_ret ?_ | refine blk2_at ?_ | (refine blk2_ex ?_ ?_; decide) | refine W2_sas ?_ | refine W2_ss ?_ | refine W2_sret ?_ | refine W2_sexit ?_ | ((first | apply W2_sra | apply W2_srda | apply W2_runa | apply W2_runda); (conv => lhs; simp only [go_sem, ibin, ishift]) <;> rfl) | ((first | apply W2_sct | apply W2_t2); (conv => lhs; simp only [go_sem]) <;> rfl; rfl) | ((first | apply W2_scf | apply W2_f2); (conv => lhs; simp only [go_sem]) <;> rfl; rfl) | refine W2_ret ?_ | refine W2_exit ?_ | refine W2_skip ?_ | refine W2_seq ?_ | refine W2_block ?_)
  ((with_reducible first | apply W2_scall | apply W2_scalld | apply W2_calla | apply W2_callda | apply run2a_sound); ((conv => lhs; simp only [go_sem, ibin, ishift]) <;> with_reducible rfl))
  refine CK_pure (routside_spec c t tote [] (by simp)).nil3 rfl ?_
  rintro v h' ⟨rfl, rfl⟩
  cases ho : t.out tote [] with
  | true =>
    have he : t.drop tote = (t, [], 1) := by rw [Tab.drop, if_pos ho]
    rw [he]
    ((with_reducible first | apply WO2_finw | apply WO2_fina); ((conv => lhs; simp only [go_sem, ibin, ishift]) <;> with_reducible rfl))
    ((repeat' with_reducible first | refine thn2_nrm ?_ | refine thn2_ret ?_ | refine thn2_ex ?_ | refine blk2_nrm ?_ | refine blk2_ret ?_ | refine blk2_at ?_ | (refine blk2_ex ?_ ?_; decide) | refine W2_sas ?_ | refine W2_ss ?_ | refine W2_sret ?_ | refine W2_sexit ?_ | refine W2_skip ?_ | ((first | apply W2_sct | apply W2_t2); (conv => lhs; simp only [go_sem]) <;> rfl; rfl) | ((first | apply W2_scf | apply W2_f2); (conv => lhs; simp only [go_sem]) <;> rfl; rfl) | refine W2_block ?_ | refine W2_seq ?_ | refine W2_exit ?_); (with_reducible first | apply W2_sra | apply W2_srda | apply W2_runa | apply W2_runda); ((conv => lhs; simp only [go_sem, ibin, ishift]) <;> with_reducible rfl))
    refine W2.weak (Wk.nilf 5 1 rfl) ?_
    (repeat' with_reducible first | refine thn2_nrm ?_ | refine thn2_ret ?_ | refine thn2_ex ?_ | refine blk2_nrm ?_ | refine blk2_ret ?_ | refine blk2_at ?_ | (refine blk2_ex ?_ ?_; decide) | refine W2_sas ?_ | refine W2_ss ?_ | refine W2_sret ?_ | refine W2_sexit ?_ | ((first | apply W2_sra | apply W2_srda | apply W2_runa | apply W2_runda); (conv => lhs; simp only [go_sem, ibin, ishift]) <;> rfl) | ((first | apply W2_sct | apply W2_t2); (conv => lhs; simp only [go_sem]) <;> rfl; rfl) | ((first | apply W2_scf | apply W2_f2); (conv => lhs; simp only [go_sem]) <;> rfl; rfl) | refine W2_ret ?_ | refine W2_exit ?_ | refine W2_skip ?_ | refine W2_seq ?_ | refine W2_block ?_)
    refine ⟨by first | exact .inr rfl | exact .inl rfl, _, _, (by (conv => lhs; simp only [go_sem, ibin, ishift]) <;> with_reducible rfl), (by (conv => lhs; simp only [go_sem, ibin, ishift]) <;> with_reducible rfl), ?_⟩
    refine ⟨[], by decide, rfl, ?_⟩
    exact ⟨rfl, rfl⟩
  | false =>
    ((with_reducible first | apply WO2_finw | apply WO2_fina); ((conv => lhs; simp only [go_sem, ibin, ishift]) <;> with_reducible rfl))
    (repeat' with_reducible first | refine thn2_nrm ?_ | refine thn2_ret ?_ | refine thn2_ex ?_ | refine blk2_nrm ?_ | refine blk2_ret ?_ | refine blk2_at ?_ | (refine blk2_ex ?_ ?_; decide) | refine W2_sas ?_ | refine W2_ss ?_ | refine W2_sret ?_ | refine W2_sexit ?_ | ((first | apply W2_sra | apply W2_srda | apply W2_runa | apply W2_runda); (conv => lhs; simp only [go_sem, ibin, ishift]) <;> rfl) | ((first | apply W2_sct | apply W2_t2); (conv => lhs; simp only [go_sem]) <;> rfl; rfl) | ((first | apply W2_scf | apply W2_f2); (conv => lhs; simp only [go_sem]) <;> rfl; rfl) | refine W2_ret ?_ | refine W2_exit ?_ | refine W2_skip ?_ | refine W2_seq ?_ | refine W2_block ?_)
    ((with_reducible first | apply W2_scall | apply W2_scalld | apply W2_calla | apply W2_callda | apply run2a_sound); ((conv => lhs; simp only [go_sem, ibin, ishift]) <;> with_reducible rfl))
    refine CK_pure (rfind_spec c t tote hl) rfl ?_
    rintro v h' ⟨rfl, rfl⟩
    cases hf : qfind t.q tote with
    | none =>
      have he : t.drop tote = (t, [], 4) := by rw [Tab.drop, if_neg (by rw [ho]; simp), hf]
      rw [he]
      ((with_reducible first | apply WO2_finw | apply WO2_fina); ((conv => lhs; simp only [go_sem, ibin, ishift, posZ]) <;> with_reducible rfl))
      ((repeat' with_reducible first | refine thn2_nrm ?_ | refine thn2_ret ?_ | refine thn2_ex ?_ | refine blk2_nrm ?_ | refine blk2_ret ?_ | refine blk2_at ?_ | (refine blk2_ex ?_ ?_; decide) | refine W2_sas ?_ | refine W2_ss ?_ | refine W2_sret ?_ | refine W2_sexit ?_ | refine W2_skip ?_ | ((first | apply W2_sct | apply W2_t2); (conv => lhs; simp only [go_sem]) <;> rfl; rfl) | ((first | apply W2_scf | apply W2_f2); (conv => lhs; simp only [go_sem]) <;> rfl; rfl) | refine W2_block ?_ | refine W2_seq ?_ | refine W2_exit ?_); (with_reducible first | apply W2_sra | apply W2_srda | apply W2_runa | apply W2_runda); ((conv => lhs; simp only [go_sem, ibin, ishift]) <;> with_reducible rfl))
      ((repeat' with_reducible first | refine thn2_nrm ?_ | refine thn2_ret ?_ | refine thn2_ex ?_ | refine blk2_nrm ?_ | refine blk2_ret ?_ | refine blk2_at ?_ | (refine blk2_ex ?_ ?_; decide) | refine W2_sas ?_ | refine W2_ss ?_ | refine W2_sret ?_ | refine W2_sexit ?_ | refine W2_skip ?_ | ((first | apply W2_sct | apply W2_t2); (conv => lhs; simp only [go_sem]) <;> rfl; rfl) | ((first | apply W2_scf | apply W2_f2); (conv => lhs; simp only [go_sem]) <;> rfl; rfl) | refine W2_block ?_ | refine W2_seq ?_ | refine W2_exit ?_); (with_reducible first | apply W2_sra | apply W2_srda | apply W2_runa | apply W2_runda); ((conv => lhs; simp only [go_sem, ibin, ishift]) <;> with_reducible rfl))
      refine W2.weak (Wk.nilf 5 1 rfl) ?_
      (repeat' with_reducible first | refine thn2_nrm ?_ | refine thn2_ret ?_ | refine thn2_ex ?_ | refine blk2_nrm ?_ | refine blk2_ret ?_ | refine blk2_at ?_ | (refine blk2_ex ?_ ?_; decide) | refine W2_sas ?_ | refine W2_ss ?_ | refine W2_sret ?_ | refine W2_sexit ?_ | ((first | apply W2_sra | apply W2_srda | apply W2_runa | apply W2_runda); (conv => lhs; simp only [go_sem, ibin, ishift]) <;> rfl) | ((first | apply W2_sct | apply W2_t2); (conv => lhs; simp only [go_sem]) <;> rfl; rfl) | ((first | apply W2_scf | apply W2_f2); (conv => lhs; simp only [go_sem]) <;> rfl; rfl) | refine W2_ret ?_ | refine W2_exit ?_ | refine W2_skip ?_ | refine W2_seq ?_ | refine W2_block ?_)
      refine ⟨by first | exact .inr rfl | exact .inl rfl, _, _, (by (conv => lhs; simp only [go_sem, ibin, ishift]) <;> with_reducible rfl), (by (conv => lhs; simp only [go_sem, ibin, ishift]) <;> with_reducible rfl), ?_⟩
      refine ⟨[], by decide, rfl, ?_⟩
      exact ⟨rfl, rfl⟩
    | some i =>
      have he : t.drop tote = ((Tab.g ⟨t.hold, t.q.eraseIdx i⟩).1, (Tab.g ⟨t.hold, t.q.eraseIdx i⟩).2, 0) := by rw [Tab.drop, if_neg (by rw [ho]; simp), hf]
      obtain ⟨cl, hcl, _⟩ : ∃ cl, t.q[i]? = some cl ∧ True := by
        rw [qfind, List.findIdx?_eq_some_iff_getElem] at hf
        obtain ⟨hj, _⟩ := hf
        exact ⟨_, List.getElem?_eq_getElem hj, trivial⟩
      have hil := (List.getElem?_eq_some_iff.1 hcl).1
      have hk' : Tab.Ok ⟨t.hold, t.q.eraseIdx i⟩ := ⟨fun d hd => hk.q d (List.mem_of_mem_eraseIdx hd), hk.hl⟩
      have gs := rgrants_spec c ⟨t.hold, t.q.eraseIdx i⟩ hk' (by simp only; rw [List.length_eraseIdx_of_lt hil]; omega)
      generalize hG : Tab.g ⟨t.hold, t.q.eraseIdx i⟩ = G at he gs
      rw [he]
      have hn : decide ((i : Int) < 0) = false := decide_eq_false (by omega)
      have b1 : (0 : Int) ≤ (i : Int) := by omega
      have b2 : (i : Int) ≤ (t.q.length : Int) := by omega
      have b3 : ((i + 1 : Nat) : Int) ≤ (t.q.length : Int) := by omega
      have b4 : (0 : Int) ≤ ((i + 1 : Nat) : Int) := by omega
      have hl1 : (t.q.take i).length = i := by rw [List.length_take]; omega
      have hroom2 : i * 32 ≤ room := by simp only [room]; omega
      have hroom3 : (i + (t.q.length - (i + 1))) * 32 ≤ room := by simp only [room]; omega
      have hee : t.q.take i ++ t.q.drop (i + 1) = t.q.eraseIdx i := by rw [List.eraseIdx_eq_take_drop_succ]
      have hel : (t.q.eraseIdx i).length = i + (t.q.length - (i + 1)) := by rw [List.length_eraseIdx_of_lt hil]; omega
      have hwi := wS (show i < 9223372036854775807 by omega)
      ((with_reducible first | apply WO2_finw | apply WO2_fina); ((conv => lhs; simp only [go_sem, ibin, ishift, posZ]) <;> with_reducible rfl))
      (repeat' with_reducible first | refine thn2_nrm ?_ | refine thn2_ret ?_ | refine thn2_ex ?_ | refine blk2_nrm ?_ | refine blk2_ret ?_ | refine blk2_at ?_ | (refine blk2_ex ?_ ?_; decide) | refine W2_sas ?_ | refine W2_ss ?_ | refine W2_sret ?_ | refine W2_sexit ?_ | ((first | apply W2_sra | apply W2_srda | apply W2_runa | apply W2_runda); (conv => lhs; simp only [go_sem, ibin, ishift, hn]) <;> rfl) | ((first | apply W2_sct | apply W2_t2); (conv => lhs; simp only [go_sem]) <;> rfl; rfl) | ((first | apply W2_scf | apply W2_f2); (conv => lhs; simp only [go_sem]) <;> rfl; rfl) | refine W2_ret ?_ | refine W2_exit ?_ | refine W2_skip ?_ | refine W2_seq ?_ | refine W2_block ?_)
      (repeat' with_reducible first | refine thn2_nrm ?_ | refine thn2_ret ?_ | refine thn2_ex ?_ | refine blk2_nrm ?_ | refine blk2_ret ?_ | refine blk2_at ?_ | (refine blk2_ex ?_ ?_; decide) | refine W2_sas ?_ | refine W2_ss ?_ | refine W2_sret ?_ | refine W2_sexit ?_ | refine W2_skip ?_ | ((first | apply W2_sct | apply W2_t2); (conv => lhs; simp only [go_sem]) <;> rfl; rfl) | ((first | apply W2_scf | apply W2_f2); (conv => lhs; simp only [go_sem]) <;> rfl; rfl) | refine W2_block ?_ | refine W2_seq ?_ | refine W2_exit ?_)
      (with_reducible first | apply W2_sregG 0 [false, false, true, false, false, false, false, true, false] | apply W2_regG 0 [false, false, true, false, false, false, false, true, false])
      · decide
      · rfl
      · intro esz h; simp [bAt] at h
      ((conv => lhs; simp only [go_sem, ibin, ishift, hwi, b1, b2, b3, b4, hl1, hroom2, hroom3, Int.le_refl, Nat.zero_add, List.take_take, Nat.min_self, List.length_take, List.length_drop]) <;> with_reducible rfl)
      rw [← List.map_append, hee, ← hel]
      refine EG_go ?_
      generalize t.q.eraseIdx i = q' at gs
      (repeat' with_reducible first | refine thn2_nrm ?_ | refine thn2_ret ?_ | refine thn2_ex ?_ | refine blk2_nrm ?_ | refine blk2_ret ?_ | refine blk2_at ?_ | (refine blk2_ex ?_ ?_; decide) | refine W2_sas ?_ | refine W2_ss ?_ | refine W2_sret ?_ | refine W2_sexit ?_ | refine W2_skip ?_ | ((first | apply W2_sct | apply W2_t2); (conv => lhs; simp only [go_sem]) <;> rfl; rfl) | ((first | apply W2_scf | apply W2_f2); (conv => lhs; simp only [go_sem]) <;> rfl; rfl) | refine W2_block ?_)
      refine W2.wfrz 4 rfl (by (conv => lhs; simp only [go_sem, ibin, ishift]) <;> with_reducible rfl) (by (conv => lhs; simp only [go_sem, ibin, ishift]) <;> with_reducible rfl) ?_
      (repeat' with_reducible first | refine thn2_nrm ?_ | refine thn2_ret ?_ | refine thn2_ex ?_ | refine blk2_nrm ?_ | refine blk2_ret ?_ | refine blk2_at ?_ | (refine blk2_ex ?_ ?_; decide) | refine W2_sas ?_ | refine W2_ss ?_ | refine W2_sret ?_ | refine W2_sexit ?_ | ((first | apply W2_sra | apply W2_srda | apply W2_runa | apply W2_runda); (conv => lhs; simp only [go_sem, ibin, ishift]) <;> rfl) | ((first | apply W2_sct | apply W2_t2); (conv => lhs; simp only [go_sem]) <;> rfl; rfl) | ((first | apply W2_scf | apply W2_f2); (conv => lhs; simp only [go_sem]) <;> rfl; rfl) | refine W2_ret ?_ | refine W2_exit ?_ | refine W2_skip ?_ | refine W2_seq ?_ | refine W2_block ?_)
      ((with_reducible first | apply W2_scall | apply W2_scalld | apply W2_calla | apply W2_callda | apply run2a_sound); ((conv => lhs; simp only [go_sem, ibin, ishift]) <;> with_reducible rfl))
      refine CK_pure gs rfl ?_
      rintro v h' ⟨rfl, rfl⟩
      ((with_reducible first | apply WO2_finw | apply WO2_fina); ((conv => lhs; simp only [go_sem, ibin, ishift]) <;> with_reducible rfl))
      (repeat' with_reducible first | refine thn2_nrm ?_ | refine thn2_ret ?_ | refine thn2_ex ?_ | refine blk2_nrm ?_ | refine blk2_ret ?_ | refine blk2_at ?_ | (refine blk2_ex ?_ ?_; decide) | refine W2_sas ?_ | refine W2_ss ?_ | refine W2_sret ?_ | refine W2_sexit ?_ | ((first | apply W2_sra | apply W2_srda | apply W2_runa | apply W2_runda); (conv => lhs; simp only [go_sem, ibin, ishift]) <;> rfl) | ((first | apply W2_sct | apply W2_t2); (conv => lhs; simp only [go_sem]) <;> rfl; rfl) | ((first | apply W2_scf | apply W2_f2); (conv => lhs; simp only [go_sem]) <;> rfl; rfl) | refine W2_ret ?_ | refine W2_exit ?_ | refine W2_skip ?_ | refine W2_seq ?_ | refine W2_block ?_)
      refine ⟨by first | exact .inr rfl | exact .inl rfl, _, _, (by (conv => lhs; simp only [go_sem, ibin, ishift]) <;> with_reducible rfl), (by (conv => lhs; simp only [go_sem, ibin, ishift]) <;> with_reducible rfl), ?_⟩
      refine ⟨[], by decide, rfl, ?_⟩
      exact ⟨rfl, rfl⟩
theorem rseize_spec (c : TabR10 T) (t : Tab) (hk : t.Ok) (tote node : Int) :
    Ret2 T 0 i_stillageref10_Seize [(.agg [.fz 1 (t.hold.map cI), .fz 2 (t.q.map cQ)]), .i .i64 tote, .i .i64 node] [] (fun v h' => v = .tup [(.agg [.fz 1 ((t.seize tote node).1.hold.map cI), .fz 2 ((t.seize tote node).1.q.map cQ)]), .i .i64 (t.seize tote node).2] ∧ h' = []) := by
  refine Ret2_fnv c.seize rfl rfl ?_
  (repeat' with_reducible first | refine thn2_nrm ?_ | refine thn2_ret ?_ | refine thn2_ex ?_ | refine blk2_nrm ?_ | refine blk2_ret ?_ | refine blk2_at ?_ | (refine blk2_ex ?_ ?_; decide) | refine W2_sas ?_ | refine W2_ss ?_ | refine W2_sret ?_ | refine W2_sexit ?_ | ((first | apply W2_sra | apply W2_srda | apply W2_runa | apply W2_runda); (conv => lhs; simp only [go_sem, ibin, ishift]) <;> rfl) | ((first | apply W2_sct | apply W2_t2); (conv => lhs; simp only [go_sem]) <;> rfl; rfl) | ((first | apply W2_scf | apply W2_f2); (conv => lhs; simp only [go_sem]) <;> rfl; rfl) | refine W2_ret ?_ | refine W2_exit ?_ | refine W2_skip ?_ | refine W2_seq ?_ | refine W2_block ?_)
  ((with_reducible first | apply W2_scall | apply W2_scalld | apply W2_calla | apply W2_callda | apply run2a_sound); ((conv => lhs; simp only [go_sem, ibin, ishift]) <;> with_reducible rfl))
  refine CK_frz 2 rfl (args' := [(.agg [.fz 1 (t.hold.map cI), .fz 2 (t.q.map cQ)]), .i .i64 tote, .fz 1 ([node].map cI)]) (by first | rfl | ((conv => lhs; simp only [go_sem, ibin, ishift]) <;> rfl)) (by (conv => lhs; simp only [go_sem, ibin, ishift]) <;> with_reducible rfl) (by (conv => lhs; simp only [go_sem, ibin, ishift]) <;> with_reducible rfl) ?_
  refine CK_pure (routside_spec c t tote [node] (by simp)) rfl ?_
  rintro v h' ⟨rfl, rfl⟩
  cases ho : t.out tote [node] with
  | true =>
    have he : t.seize tote node = (t, 1) := by rw [Tab.seize, if_pos ho]
    rw [he]
    ((with_reducible first | apply WO2_finw | apply WO2_fina); ((conv => lhs; simp only [go_sem, ibin, ishift]) <;> with_reducible rfl))
    (repeat' with_reducible first | refine thn2_nrm ?_ | refine thn2_ret ?_ | refine thn2_ex ?_ | refine blk2_nrm ?_ | refine blk2_ret ?_ | refine blk2_at ?_ | (refine blk2_ex ?_ ?_; decide) | refine W2_sas ?_ | refine W2_ss ?_ | refine W2_sret ?_ | refine W2_sexit ?_ | ((first | apply W2_sra | apply W2_srda | apply W2_runa | apply W2_runda); (conv => lhs; simp only [go_sem, ibin, ishift]) <;> rfl) | ((first | apply W2_sct | apply W2_t2); (conv => lhs; simp only [go_sem]) <;> rfl; rfl) | ((first | apply W2_scf | apply W2_f2); (conv => lhs; simp only [go_sem]) <;> rfl; rfl) | refine W2_ret ?_ | refine W2_exit ?_ | refine W2_skip ?_ | refine W2_seq ?_ | refine W2_block ?_)
    refine ⟨by first | exact .inr rfl | exact .inl rfl, _, _, (by (conv => lhs; simp only [go_sem, ibin, ishift]) <;> with_reducible rfl), (by (conv => lhs; simp only [go_sem, ibin, ishift]) <;> with_reducible rfl), ?_⟩
    refine ⟨[], by decide, rfl, ?_⟩
    exact ⟨rfl, rfl⟩
  | false =>
    obtain ⟨o1, o2, o3⟩ := out_in ho
    obtain ⟨h0, h1⟩ := o3 node (by simp)
    obtain ⟨m, rfl⟩ := Int.eq_ofNat_of_zero_le h0
    have hml : m < t.hold.length := by omega
    have hg := List.getElem?_eq_getElem hml
    generalize t.hold[m] = x at hg
    have hroom1 : t.hold.length * 8 ≤ room := by simp only [room]; have := hk.hl; omega
    ((with_reducible first | apply WO2_finw | apply WO2_fina); ((conv => lhs; simp only [go_sem, ibin, ishift]) <;> with_reducible rfl))
    (repeat' with_reducible first | refine thn2_nrm ?_ | refine thn2_ret ?_ | refine thn2_ex ?_ | refine blk2_nrm ?_ | refine blk2_ret ?_ | refine blk2_at ?_ | (refine blk2_ex ?_ ?_; decide) | refine W2_sas ?_ | refine W2_ss ?_ | refine W2_sret ?_ | refine W2_sexit ?_ | ((first | apply W2_sra | apply W2_srda | apply W2_runa | apply W2_runda); (conv => lhs; simp only [go_sem, ibin, ishift, hg, h0, h1, hml, cI]) <;> rfl) | ((first | apply W2_sct | apply W2_t2); (conv => lhs; simp only [go_sem]) <;> rfl; rfl) | ((first | apply W2_scf | apply W2_f2); (conv => lhs; simp only [go_sem]) <;> rfl; rfl) | refine W2_ret ?_ | refine W2_exit ?_ | refine W2_skip ?_ | refine W2_seq ?_ | refine W2_block ?_)
    (((first | with_reducible apply W2_sc | with_reducible apply W2_cond); ((conv => lhs; simp only [go_sem]) <;> with_reducible rfl)) <;> intro hx <;> (try rw [hx]) <;> simp only [Bool.or_eq_true, Bool.and_eq_true, decide_eq_true_eq, Bool.or_eq_false_iff, Bool.and_eq_false_iff, decide_eq_false_iff_not, Bool.not_eq_true', Bool.not_eq_false', bne_iff_ne, beq_iff_eq, not_or, not_and, Decidable.not_not, ne_eq, gt_iff_lt, ge_iff_le, Int.not_lt, Int.not_le] at hx)
    · have he : t.seize tote (m : Int) = (t, 100) := by
        rw [Tab.seize, if_neg (by rw [ho]; simp), if_pos (by simp only [Int.toNat_natCast, hg, Option.getD_some]; exact hx)]
      rw [he]
      (repeat' with_reducible first | refine thn2_nrm ?_ | refine thn2_ret ?_ | refine thn2_ex ?_ | refine blk2_nrm ?_ | refine blk2_ret ?_ | refine blk2_at ?_ | (refine blk2_ex ?_ ?_; decide) | refine W2_sas ?_ | refine W2_ss ?_ | refine W2_sret ?_ | refine W2_sexit ?_ | ((first | apply W2_sra | apply W2_srda | apply W2_runa | apply W2_runda); (conv => lhs; simp only [go_sem, ibin, ishift]) <;> rfl) | ((first | apply W2_sct | apply W2_t2); (conv => lhs; simp only [go_sem]) <;> rfl; rfl) | ((first | apply W2_scf | apply W2_f2); (conv => lhs; simp only [go_sem]) <;> rfl; rfl) | refine W2_ret ?_ | refine W2_exit ?_ | refine W2_skip ?_ | refine W2_seq ?_ | refine W2_block ?_)
      refine ⟨by first | exact .inr rfl | exact .inl rfl, _, _, (by (conv => lhs; simp only [go_sem, ibin, ishift]) <;> with_reducible rfl), (by (conv => lhs; simp only [go_sem, ibin, ishift]) <;> with_reducible rfl), ?_⟩
      refine ⟨[], by decide, rfl, ?_⟩
      exact ⟨rfl, rfl⟩
    · have he : t.seize tote (m : Int) = (⟨t.hold.set m tote, t.q⟩, 0) := by
        rw [Tab.seize, if_neg (by rw [ho]; simp), if_neg (by simp only [Int.toNat_natCast, hg, Option.getD_some]; intro h; rcases hx with hx | hx; · exact h.1 hx
                                                             · exact h.2 hx)]; rfl
      rw [he]
      have hset : (t.hold.map cI).set m [.i .i64 tote] = (t.hold.set m tote).map cI := by rw [List.map_set]; rfl
      have hsl : t.hold.length = (t.hold.set m tote).length := by simp
      simp only
      generalize hld : t.hold.set m tote = hd' at hset hsl
      ((repeat' with_reducible first | refine thn2_nrm ?_ | refine thn2_ret ?_ | refine thn2_ex ?_ | refine blk2_nrm ?_ | refine blk2_ret ?_ | refine blk2_at ?_ | (refine blk2_ex ?_ ?_; decide) | refine W2_sas ?_ | refine W2_ss ?_ | refine W2_sret ?_ | refine W2_sexit ?_ | refine W2_skip ?_ | ((first | apply W2_sct | apply W2_t2); (conv => lhs; simp only [go_sem]) <;> rfl; rfl) | ((first | apply W2_scf | apply W2_f2); (conv => lhs; simp only [go_sem]) <;> rfl; rfl) | refine W2_block ?_ | refine W2_seq ?_ | refine W2_exit ?_); (with_reducible first | apply W2_sra | apply W2_srda | apply W2_runa | apply W2_runda); ((conv => lhs; simp only [go_sem, ibin, ishift, hroom1, Nat.zero_add]) <;> with_reducible rfl))
      ((repeat' with_reducible first | refine thn2_nrm ?_ | refine thn2_ret ?_ | refine thn2_ex ?_ | refine blk2_nrm ?_ | refine blk2_ret ?_ | refine blk2_at ?_ | (refine blk2_ex ?_ ?_; decide) | refine W2_sas ?_ | refine W2_ss ?_ | refine W2_sret ?_ | refine W2_sexit ?_ | refine W2_skip ?_ | ((first | apply W2_sct | apply W2_t2); (conv => lhs; simp only [go_sem]) <;> rfl; rfl) | ((first | apply W2_scf | apply W2_f2); (conv => lhs; simp only [go_sem]) <;> rfl; rfl) | refine W2_block ?_ | refine W2_seq ?_ | refine W2_exit ?_); (with_reducible first | apply W2_sra | apply W2_srda | apply W2_runa | apply W2_runda); ((conv => lhs; simp only [go_sem, ibin, ishift, hg, h0, h1, hml, cI, hset]) <;> with_reducible rfl))
      rw [hsl]
      refine W2.wfrz 4 rfl (by (conv => lhs; simp only [go_sem, ibin, ishift]) <;> with_reducible rfl) (by (conv => lhs; simp only [go_sem, ibin, ishift]) <;> with_reducible rfl) ?_
      (repeat' with_reducible first | refine thn2_nrm ?_ | refine thn2_ret ?_ | refine thn2_ex ?_ | refine blk2_nrm ?_ | refine blk2_ret ?_ | refine blk2_at ?_ | (refine blk2_ex ?_ ?_; decide) | refine W2_sas ?_ | refine W2_ss ?_ | refine W2_sret ?_ | refine W2_sexit ?_ | ((first | apply W2_sra | apply W2_srda | apply W2_runa | apply W2_runda); (conv => lhs; simp only [go_sem, ibin, ishift]) <;> rfl) | ((first | apply W2_sct | apply W2_t2); (conv => lhs; simp only [go_sem]) <;> rfl; rfl) | ((first | apply W2_scf | apply W2_f2); (conv => lhs; simp only [go_sem]) <;> rfl; rfl) | refine W2_ret ?_ | refine W2_exit ?_ | refine W2_skip ?_ | refine W2_seq ?_ | refine W2_block ?_)
      refine ⟨by first | exact .inr rfl | exact .inl rfl, _, _, (by (conv => lhs; simp only [go_sem, ibin, ishift]) <;> with_reducible rfl), (by (conv => lhs; simp only [go_sem, ibin, ishift]) <;> with_reducible rfl), ?_⟩
      refine ⟨[], by decide, rfl, ?_⟩
      exact ⟨rfl, rfl⟩
end Go.Proofs.Ytpgoemmjhnnmoaa.Ab
