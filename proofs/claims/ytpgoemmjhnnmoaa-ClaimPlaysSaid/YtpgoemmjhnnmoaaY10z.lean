/- Chapter 10: the document's table, what is granted. -/
import Derived.Test.YtpgoemmjhnnmoaaY10y
import Derived.Test.YtpgoemmjhnnmoaaY10i
namespace Go.Proofs.Ytpgoemmjhnnmoaa.Ab
open Go
set_option linter.unusedVariables false
set_option linter.unusedSimpArgs false
variable {T : AT}
/-- may a node be had, with these ahead? -/
def mayN (hold : List Int) (A : List Clm) (t n : Int) : Bool := (decide (holdAt hold n = 0) || decide (holdAt hold n = t)) && !A.any fun d => d.ns.any fun x => decide (x = n)
theorem marks_iff {N : Nat} {A : List Clm} (hA : ∀ d ∈ A, inB N d.ns) {n : Int} (h0 : 0 ≤ n) (h1 : n < N) : (marks (List.replicate N false) A)[n.toNat]?.getD true = A.any fun d => d.ns.any fun x => decide (x = n) := by
  have hlt : n.toNat < (List.replicate N false).length := by simp; omega
  cases hb : A.any fun d => d.ns.any fun x => decide (x = n) with
  | true =>
    obtain ⟨d, hd, h2⟩ := List.any_eq_true.1 hb
    obtain ⟨x, hx, h3⟩ := List.any_eq_true.1 h2
    have hxn : x = n := by simpa using h3
    have key : ∀ (B : List Clm) (wl : List Bool), n.toNat < wl.length → (wl[n.toNat]? = some true ∨ ∃ d ∈ B, n ∈ d.ns) → (marks wl B)[n.toNat]? = some true := fun B => by
      induction B with
      | nil => intro wl _ h; rcases h with h | ⟨_, hd, _⟩; · exact h
               · cases hd
      | cons e B ih =>
        intro wl hl h
        rw [marks_cons]
        refine ih _ (by rw [markL_len]; exact hl) ?_
        rcases h with h | ⟨d, hd, hn⟩
        · exact .inl (markL_has true e.ns wl n.toNat hl (.inr h))
        · rcases List.mem_cons.1 hd with rfl | hd
          · exact .inl (markL_has true d.ns wl n.toNat hl (.inl (by rwa [Int.toNat_of_nonneg h0])))
          · exact .inr ⟨d, hd, hn⟩
    rw [key A _ hlt (.inr ⟨d, hd, hxn ▸ hx⟩)]; rfl
  | false =>
    rw [marks_get A _ n.toNat fun d hd m hm e => ?_, List.getElem?_replicate, if_pos (by simp at hlt; exact hlt)]
    · rfl
    · have h2 := List.any_eq_false.1 hb d hd
      have := hA d hd m hm
      have hmn : m = n := by omega
      exact h2 (List.any_eq_true.2 ⟨m, hm, by simp [hmn]⟩)
theorem may_free {N : Nat} {hold : List Int} {A : List Clm} (hA : ∀ d ∈ A, inB N d.ns) {c : Clm} (hc : inB N c.ns) : c.ns.all (mayN hold A c.t) = freeC hold (marks (List.replicate N false) A) c := by
  simp only [freeC]
  have : ∀ l : List Int, (∀ n ∈ l, 0 ≤ n ∧ n < N) → l.all (mayN hold A c.t) = l.all (freeN hold (marks (List.replicate N false) A) c.t) := fun l => by
    induction l with
    | nil => intro _; rfl
    | cons n l ih =>
      intro h
      have hn := h n (.head _)
      simp only [List.all_cons, ih fun m hm => h m (.tail _ hm)]
      congr 1
      simp only [mayN, freeN, marks_iff hA hn.1 hn.2, holdAt]
      rw [Bool.and_comm]
      rfl
  exact this c.ns hc
def cC (c : Clm) : List SV := [.i .i64 c.t, .fz 1 (c.ns.map cI)]
set_option maxHeartbeats 1000000 in
theorem rmay_spec (c : TabR10 T) (t : Tab) (hk : t.Ok) (hl : t.q.length ≤ 1000000) (i : Nat) (cl : Clm) (hc : t.q[i]? = some cl) :
    Ret2 T 0 i_stillageref10_may [(.agg [.fz 1 (t.hold.map cI), .fz 2 (t.q.map cQ)]), .i .i64 i] [] (fun v h' => v = .b (cl.ns.all (mayN t.hold (t.q.take i) cl.t)) ∧ h' = []) := by
  refine Ret2_fnv c.may rfl rfl ?_
  have hil := (List.getElem?_eq_some_iff.1 hc).1
  obtain ⟨hin, hnl⟩ := hk.q cl (List.mem_of_getElem? hc)
  (repeat' with_reducible first | refine thn2_nrm ?_ | refine thn2_ret ?_ | refine thn2_ex ?_ | refine blk2_nrm ?_ | refine blk2_ret ?_ | refine blk2_at ?_ | (refine blk2_ex ?_ ?_; decide) | refine W2_sas ?_ | refine W2_ss ?_ | refine W2_sret ?_ | refine W2_sexit ?_ | ((first | apply W2_sra | apply W2_srda | apply W2_runa | apply W2_runda); (conv => lhs; simp only [go_sem, ibin, ishift, hc, hil, cQ]) <;> rfl) | ((first | apply W2_sct | apply W2_t2); (conv => lhs; simp only [go_sem]) <;> rfl; rfl) | ((first | apply W2_scf | apply W2_f2); (conv => lhs; simp only [go_sem]) <;> rfl; rfl) | refine W2_ret ?_ | refine W2_exit ?_ | refine W2_skip ?_ | refine W2_seq ?_ | refine W2_block ?_)
  refine W2_loopu (fun m u g => ∃ k, k + m = cl.ns.length ∧ (cl.ns.take k).all (mayN t.hold (t.q.take i) cl.t) = true ∧ u = [(17, .i .i64 k)] ∧ g = []) cl.ns.length ⟨0, by omega, rfl, rfl, rfl⟩ rfl rfl ?_
  rintro m u g ⟨k, hk2, hall, rfl, rfl⟩
  intro e1 h1 he1 hh1; simp only [egd, supE, hgd, supH, Nat.reduceEqDiff, Nat.reduceAdd, if_true, if_false, reduceIte] at he1 hh1; subst he1; subst hh1
  (repeat' with_reducible first | refine thn2_nrm ?_ | refine thn2_ret ?_ | refine thn2_ex ?_ | refine blk2_nrm ?_ | refine blk2_ret ?_ | refine blk2_at ?_ | (refine blk2_ex ?_ ?_; decide) | refine W2_sas ?_ | refine W2_ss ?_ | refine W2_sret ?_ | refine W2_sexit ?_ | ((first | apply W2_sra | apply W2_srda | apply W2_runa | apply W2_runda); (conv => lhs; simp only [go_sem, ibin, ishift]) <;> rfl) | ((first | apply W2_sct | apply W2_t2); (conv => lhs; simp only [go_sem]) <;> rfl; rfl) | ((first | apply W2_scf | apply W2_f2); (conv => lhs; simp only [go_sem]) <;> rfl; rfl) | refine W2_ret ?_ | refine W2_exit ?_ | refine W2_skip ?_ | refine W2_seq ?_ | refine W2_block ?_)
  (((first | with_reducible apply W2_sc | with_reducible apply W2_cond); ((conv => lhs; simp only [go_sem]) <;> with_reducible rfl)) <;> intro hx <;> (try rw [hx]) <;> simp only [Bool.or_eq_true, Bool.and_eq_true, decide_eq_true_eq, Bool.or_eq_false_iff, Bool.and_eq_false_iff, decide_eq_false_iff_not, Bool.not_eq_true', Bool.not_eq_false', bne_iff_ne, beq_iff_eq, not_or, not_and, Decidable.not_not, ne_eq, gt_iff_lt, ge_iff_le, Int.not_lt, Int.not_le] at hx)
  · have hjl : k < cl.ns.length := by omega
    have hg := List.getElem?_eq_getElem hjl
    have htk : cl.ns.take (k + 1) = cl.ns.take k ++ [cl.ns[k]] := by rw [List.take_add_one, List.getElem?_eq_getElem hjl]; rfl
    have hmem := List.getElem_mem hjl
    generalize cl.ns[k] = n at hg htk hmem
    obtain ⟨h0, h1⟩ := hin n hmem
    obtain ⟨a, rfl⟩ := Int.eq_ofNat_of_zero_le h0
    have hal : a < t.hold.length := by omega
    have hg2 := List.getElem?_eq_getElem hal
    have hho : holdAt t.hold (a : Int) = t.hold[a] := by simp [holdAt, hg2]
    generalize t.hold[a] = y at hg2 hho
    have hwk := wS (show k < 9223372036854775807 by omega)
    -- one that doesn't bear it ends all
    have bad : mayN t.hold (t.q.take i) cl.t (a : Int) = false → cl.ns.all (mayN t.hold (t.q.take i) cl.t) = false := fun h => List.all_eq_false.2 ⟨(a : Int), hmem, by rw [h]; simp⟩
    (repeat' with_reducible first | refine thn2_nrm ?_ | refine thn2_ret ?_ | refine thn2_ex ?_ | refine blk2_nrm ?_ | refine blk2_ret ?_ | refine blk2_at ?_ | (refine blk2_ex ?_ ?_; decide) | refine W2_sas ?_ | refine W2_ss ?_ | refine W2_sret ?_ | refine W2_sexit ?_ | ((first | apply W2_sra | apply W2_srda | apply W2_runa | apply W2_runda); (conv => lhs; simp only [go_sem, ibin, ishift, hg, hjl, cI, hg2, hal, h1]) <;> rfl) | ((first | apply W2_sct | apply W2_t2); (conv => lhs; simp only [go_sem]) <;> rfl; rfl) | ((first | apply W2_scf | apply W2_f2); (conv => lhs; simp only [go_sem]) <;> rfl; rfl) | refine W2_ret ?_ | refine W2_exit ?_ | refine W2_skip ?_ | refine W2_seq ?_ | refine W2_block ?_)
    (((first | with_reducible apply W2_sc | with_reducible apply W2_cond); ((conv => lhs; simp only [go_sem]) <;> with_reducible rfl)) <;> intro hx <;> (try rw [hx]) <;> simp only [Bool.or_eq_true, Bool.and_eq_true, decide_eq_true_eq, Bool.or_eq_false_iff, Bool.and_eq_false_iff, decide_eq_false_iff_not, Bool.not_eq_true', Bool.not_eq_false', bne_iff_ne, beq_iff_eq, not_or, not_and, Decidable.not_not, ne_eq, gt_iff_lt, ge_iff_le, Int.not_lt, Int.not_le] at hx)
    · rw [bad (by simp [mayN, hho, hx])]
      (repeat' with_reducible first | refine thn2_nrm ?_ | refine thn2_ret ?_ | refine thn2_ex ?_ | refine blk2_nrm ?_ | refine blk2_ret ?_ | refine blk2_at ?_ | (refine blk2_ex ?_ ?_; decide) | refine W2_sas ?_ | refine W2_ss ?_ | refine W2_sret ?_ | refine W2_sexit ?_ | ((first | apply W2_sra | apply W2_srda | apply W2_runa | apply W2_runda); (conv => lhs; simp only [go_sem, ibin, ishift]) <;> rfl) | ((first | apply W2_sct | apply W2_t2); (conv => lhs; simp only [go_sem]) <;> rfl; rfl) | ((first | apply W2_scf | apply W2_f2); (conv => lhs; simp only [go_sem]) <;> rfl; rfl) | refine W2_ret ?_ | refine W2_exit ?_ | refine W2_skip ?_ | refine W2_seq ?_ | refine W2_block ?_)
      refine ⟨by first | exact .inr rfl | exact .inl rfl, _, _, (by (conv => lhs; simp only [go_sem, ibin, ishift]) <;> with_reducible rfl), (by (conv => lhs; simp only [go_sem, ibin, ishift]) <;> with_reducible rfl), ?_⟩
      refine ⟨[], by decide, rfl, ?_⟩
      exact ⟨rfl, rfl⟩
    · have hfree : (decide (holdAt t.hold (a : Int) = 0) || decide (holdAt t.hold (a : Int) = cl.t)) = true := by
        rw [hho]
        rcases hx with hx | hx <;> simp [hx]
      (repeat' with_reducible first | refine thn2_nrm ?_ | refine thn2_ret ?_ | refine thn2_ex ?_ | refine blk2_nrm ?_ | refine blk2_ret ?_ | refine blk2_at ?_ | (refine blk2_ex ?_ ?_; decide) | refine W2_sas ?_ | refine W2_ss ?_ | refine W2_sret ?_ | refine W2_sexit ?_ | ((first | apply W2_sra | apply W2_srda | apply W2_runa | apply W2_runda); (conv => lhs; simp only [go_sem, ibin, ishift]) <;> rfl) | ((first | apply W2_sct | apply W2_t2); (conv => lhs; simp only [go_sem]) <;> rfl; rfl) | ((first | apply W2_scf | apply W2_f2); (conv => lhs; simp only [go_sem]) <;> rfl; rfl) | refine W2_ret ?_ | refine W2_exit ?_ | refine W2_skip ?_ | refine W2_seq ?_ | refine W2_block ?_)
      generalize hA : t.q.take i = A at bad hall htk
      refine W2_loopu (fun m u g => ∃ j, j + m = i ∧ (A.take j).any (fun d => d.ns.any fun x => decide (x = (a : Int))) = false ∧ u = [(8, .i .i64 j)] ∧ g = []) i ⟨0, by omega, rfl, rfl, rfl⟩ rfl rfl ?_
      rintro m u g ⟨j, hj, hno, rfl, rfl⟩
      intro e1 h1 he1 hh1; simp only [egd, supE, hgd, supH, Nat.reduceEqDiff, Nat.reduceAdd, if_true, if_false, reduceIte] at he1 hh1; subst he1; subst hh1
      (repeat' with_reducible first | refine thn2_nrm ?_ | refine thn2_ret ?_ | refine thn2_ex ?_ | refine blk2_nrm ?_ | refine blk2_ret ?_ | refine blk2_at ?_ | (refine blk2_ex ?_ ?_; decide) | refine W2_sas ?_ | refine W2_ss ?_ | refine W2_sret ?_ | refine W2_sexit ?_ | ((first | apply W2_sra | apply W2_srda | apply W2_runa | apply W2_runda); (conv => lhs; simp only [go_sem, ibin, ishift]) <;> rfl) | ((first | apply W2_sct | apply W2_t2); (conv => lhs; simp only [go_sem]) <;> rfl; rfl) | ((first | apply W2_scf | apply W2_f2); (conv => lhs; simp only [go_sem]) <;> rfl; rfl) | refine W2_ret ?_ | refine W2_exit ?_ | refine W2_skip ?_ | refine W2_seq ?_ | refine W2_block ?_)
      have hAl : A.length = i := by rw [← hA, List.length_take]; omega
      (((first | with_reducible apply W2_sc | with_reducible apply W2_cond); ((conv => lhs; simp only [go_sem]) <;> with_reducible rfl)) <;> intro hx <;> (try rw [hx]) <;> simp only [Bool.or_eq_true, Bool.and_eq_true, decide_eq_true_eq, Bool.or_eq_false_iff, Bool.and_eq_false_iff, decide_eq_false_iff_not, Bool.not_eq_true', Bool.not_eq_false', bne_iff_ne, beq_iff_eq, not_or, not_and, Decidable.not_not, ne_eq, gt_iff_lt, ge_iff_le, Int.not_lt, Int.not_le] at hx)
      · have hji : j < A.length := by omega
        have hgA := List.getElem?_eq_getElem hji
        have htA : A.take (j + 1) = A.take j ++ [A[j]] := by rw [List.take_add_one, List.getElem?_eq_getElem hji]; rfl
        have hmA := List.getElem_mem hji
        have hgq : t.q[j]? = some A[j] := by
          rw [← hgA, ← hA, List.getElem?_take, if_pos (by omega)]
        generalize A[j] = d at hgA htA hmA hgq
        have hjq : j < t.q.length := by omega
        have hdl : d.ns.length ≤ 1000000 := (hk.q d (List.mem_of_getElem? hgq)).2
        (repeat' with_reducible first | refine thn2_nrm ?_ | refine thn2_ret ?_ | refine thn2_ex ?_ | refine blk2_nrm ?_ | refine blk2_ret ?_ | refine blk2_at ?_ | (refine blk2_ex ?_ ?_; decide) | refine W2_sas ?_ | refine W2_ss ?_ | refine W2_sret ?_ | refine W2_sexit ?_ | ((first | apply W2_sra | apply W2_srda | apply W2_runa | apply W2_runda); (conv => lhs; simp only [go_sem, ibin, ishift, hgq, hjq, cQ]) <;> rfl) | ((first | apply W2_sct | apply W2_t2); (conv => lhs; simp only [go_sem]) <;> rfl; rfl) | ((first | apply W2_scf | apply W2_f2); (conv => lhs; simp only [go_sem]) <;> rfl; rfl) | refine W2_ret ?_ | refine W2_exit ?_ | refine W2_skip ?_ | refine W2_seq ?_ | refine W2_block ?_)
        ((with_reducible first | apply W2_scall | apply W2_scalld | apply W2_calla | apply W2_callda | apply run2a_sound); ((conv => lhs; simp only [go_sem, ibin, ishift, hgq, hjq, cQ]) <;> with_reducible rfl))
        refine CK_pure (rhas_spec c d.ns (a : Int) (by omega)) rfl ?_
        rintro v h' ⟨rfl, rfl⟩
        cases hb : d.ns.any fun x => decide (x = (a : Int)) with
        | true =>
          ((with_reducible first | apply WO2_finw | apply WO2_fina); ((conv => lhs; simp only [go_sem, ibin, ishift]) <;> with_reducible rfl))
          rw [bad (by
            simp only [mayN, Bool.and_eq_false_iff, Bool.not_eq_false']
            exact .inr (List.any_eq_true.2 ⟨d, hmA, hb⟩))]
          (repeat' with_reducible first | refine thn2_nrm ?_ | refine thn2_ret ?_ | refine thn2_ex ?_ | refine blk2_nrm ?_ | refine blk2_ret ?_ | refine blk2_at ?_ | (refine blk2_ex ?_ ?_; decide) | refine W2_sas ?_ | refine W2_ss ?_ | refine W2_sret ?_ | refine W2_sexit ?_ | ((first | apply W2_sra | apply W2_srda | apply W2_runa | apply W2_runda); (conv => lhs; simp only [go_sem, ibin, ishift]) <;> rfl) | ((first | apply W2_sct | apply W2_t2); (conv => lhs; simp only [go_sem]) <;> rfl; rfl) | ((first | apply W2_scf | apply W2_f2); (conv => lhs; simp only [go_sem]) <;> rfl; rfl) | refine W2_ret ?_ | refine W2_exit ?_ | refine W2_skip ?_ | refine W2_seq ?_ | refine W2_block ?_)
          refine ⟨by first | exact .inr rfl | exact .inl rfl, _, _, (by (conv => lhs; simp only [go_sem, ibin, ishift]) <;> with_reducible rfl), (by (conv => lhs; simp only [go_sem, ibin, ishift]) <;> with_reducible rfl), ?_⟩
          refine ⟨[], by decide, rfl, ?_⟩
          exact ⟨rfl, rfl⟩
        | false =>
          ((with_reducible first | apply WO2_finw | apply WO2_fina); ((conv => lhs; simp only [go_sem, ibin, ishift]) <;> with_reducible rfl))
          (repeat' with_reducible first | refine thn2_nrm ?_ | refine thn2_ret ?_ | refine thn2_ex ?_ | refine blk2_nrm ?_ | refine blk2_ret ?_ | refine blk2_at ?_ | (refine blk2_ex ?_ ?_; decide) | refine W2_sas ?_ | refine W2_ss ?_ | refine W2_sret ?_ | refine W2_sexit ?_ | ((first | apply W2_sra | apply W2_srda | apply W2_runa | apply W2_runda); (conv => lhs; simp only [go_sem, ibin, ishift, wS (show j < 9223372036854775807 by omega)]) <;> rfl) | ((first | apply W2_sct | apply W2_t2); (conv => lhs; simp only [go_sem]) <;> rfl; rfl) | ((first | apply W2_scf | apply W2_f2); (conv => lhs; simp only [go_sem]) <;> rfl; rfl) | refine W2_ret ?_ | refine W2_exit ?_ | refine W2_skip ?_ | refine W2_seq ?_ | refine W2_block ?_)
          refine ⟨[0, 1], by decide, rfl, ?_⟩
          exact ⟨i - (j + 1), _, _, by omega, ⟨j + 1, by omega, by rw [htA, List.any_append, hno]; simp [hb], rfl, rfl⟩, rfl, rfl⟩
      · have : j = i := by omega
        subst this
        rw [List.take_of_length_le (by omega)] at hno
        (repeat' with_reducible first | refine thn2_nrm ?_ | refine thn2_ret ?_ | refine thn2_ex ?_ | refine blk2_nrm ?_ | refine blk2_ret ?_ | refine blk2_at ?_ | (refine blk2_ex ?_ ?_; decide) | refine W2_sas ?_ | refine W2_ss ?_ | refine W2_sret ?_ | refine W2_sexit ?_ | ((first | apply W2_sra | apply W2_srda | apply W2_runa | apply W2_runda); (conv => lhs; simp only [go_sem, ibin, ishift, hwk]) <;> rfl) | ((first | apply W2_sct | apply W2_t2); (conv => lhs; simp only [go_sem]) <;> rfl; rfl) | ((first | apply W2_scf | apply W2_f2); (conv => lhs; simp only [go_sem]) <;> rfl; rfl) | refine W2_ret ?_ | refine W2_exit ?_ | refine W2_skip ?_ | refine W2_seq ?_ | refine W2_block ?_)
        refine ⟨[0, 1], by decide, rfl, ?_⟩
        exact ⟨cl.ns.length - (k + 1), _, _, by omega, ⟨k + 1, by omega, by rw [htk, List.all_append, hall]; simp [mayN, hno, hfree], rfl, rfl⟩, rfl, rfl⟩
  · have : k = cl.ns.length := by omega
    subst this
    rw [List.take_length] at hall
    rw [hall]
    (repeat' with_reducible first | refine thn2_nrm ?_ | refine thn2_ret ?_ | refine thn2_ex ?_ | refine blk2_nrm ?_ | refine blk2_ret ?_ | refine blk2_at ?_ | (refine blk2_ex ?_ ?_; decide) | refine W2_sas ?_ | refine W2_ss ?_ | refine W2_sret ?_ | refine W2_sexit ?_ | ((first | apply W2_sra | apply W2_srda | apply W2_runa | apply W2_runda); (conv => lhs; simp only [go_sem, ibin, ishift]) <;> rfl) | ((first | apply W2_sct | apply W2_t2); (conv => lhs; simp only [go_sem]) <;> rfl; rfl) | ((first | apply W2_scf | apply W2_f2); (conv => lhs; simp only [go_sem]) <;> rfl; rfl) | refine W2_ret ?_ | refine W2_exit ?_ | refine W2_skip ?_ | refine W2_seq ?_ | refine W2_block ?_)
    refine ⟨by first | exact .inr rfl | exact .inl rfl, _, _, (by (conv => lhs; simp only [go_sem, ibin, ishift]) <;> with_reducible rfl), (by (conv => lhs; simp only [go_sem, ibin, ishift]) <;> with_reducible rfl), ?_⟩
    refine ⟨[], by decide, rfl, ?_⟩
    exact ⟨rfl, rfl⟩
theorem scan_first {hold : List Int} : ∀ {q : List Clm} {wl : List Bool} {i : Nat} {c : Clm}, (∀ (j : Nat) d, j < i → q[j]? = some d → freeC hold (marks wl (q.take j)) d = false) → q[i]? = some c → freeC hold (marks wl (q.take i)) c = true → scan hold wl q = some i
  | [], wl, i, c, _, hc, _ => by simp at hc
  | e :: q, wl, 0, c, _, hc, hf => by
    simp at hc; subst hc
    rw [scan, if_pos (by simpa [marks] using hf)]
  | e :: q, wl, i + 1, c, hno, hc, hf => by
    have h0 := hno 0 e (by omega) rfl
    simp only [List.take_zero, marks, List.foldl_nil] at h0
    rw [scan, if_neg (by rw [h0]; simp), scan_first (i := i) (c := c) (fun j d hj hd => ?_) (by simpa using hc) (by rwa [List.take_succ_cons, marks_cons] at hf)]
    · rfl
    · have := hno (j + 1) d (by omega) (by simpa using hd)
      rwa [List.take_succ_cons, marks_cons] at this
set_option maxHeartbeats 2000000 in
theorem rgrants_spec (c : TabR10 T) (t : Tab) (hk : t.Ok) (hl : t.q.length ≤ 1000000) :
    Ret2 T 0 i_stillageref10_Grants [(.agg [.fz 1 (t.hold.map cI), .fz 2 (t.q.map cQ)])] [] (fun v h' => v = .tup [(.agg [.fz 1 (t.g.1.hold.map cI), .fz 2 (t.g.1.q.map cQ)]), .fz 1 (t.g.2.map cI)] ∧ h' = []) := by
  refine Ret2_fnv c.grants rfl rfl ?_
  ((repeat' with_reducible first | refine thn2_nrm ?_ | refine thn2_ret ?_ | refine thn2_ex ?_ | refine blk2_nrm ?_ | refine blk2_ret ?_ | refine blk2_at ?_ | (refine blk2_ex ?_ ?_; decide) | refine W2_sas ?_ | refine W2_ss ?_ | refine W2_sret ?_ | refine W2_sexit ?_ | refine W2_skip ?_ | ((first | apply W2_sct | apply W2_t2); (conv => lhs; simp only [go_sem]) <;> rfl; rfl) | ((first | apply W2_scf | apply W2_f2); (conv => lhs; simp only [go_sem]) <;> rfl; rfl) | refine W2_block ?_ | refine W2_seq ?_ | refine W2_exit ?_); (with_reducible first | apply W2_sra | apply W2_srda | apply W2_runa | apply W2_runda); ((conv => lhs; simp only [go_sem, ibin, ishift]) <;> with_reducible rfl))
  ((repeat' with_reducible first | refine thn2_nrm ?_ | refine thn2_ret ?_ | refine thn2_ex ?_ | refine blk2_nrm ?_ | refine blk2_ret ?_ | refine blk2_at ?_ | (refine blk2_ex ?_ ?_; decide) | refine W2_sas ?_ | refine W2_ss ?_ | refine W2_sret ?_ | refine W2_sexit ?_ | refine W2_skip ?_ | ((first | apply W2_sct | apply W2_t2); (conv => lhs; simp only [go_sem]) <;> rfl; rfl) | ((first | apply W2_scf | apply W2_f2); (conv => lhs; simp only [go_sem]) <;> rfl; rfl) | refine W2_block ?_ | refine W2_seq ?_ | refine W2_exit ?_); (with_reducible first | apply W2_sra | apply W2_srda | apply W2_runa | apply W2_runda); ((conv => lhs; simp only [go_sem, ibin, ishift]) <;> with_reducible rfl))
  refine W2.wnil 4 1 rfl (by (conv => lhs; simp only [go_sem, ibin, ishift]) <;> with_reducible rfl) (by (conv => lhs; simp only [go_sem, ibin, ishift]) <;> with_reducible rfl) ?_
  (repeat' with_reducible first | refine thn2_nrm ?_ | refine thn2_ret ?_ | refine thn2_ex ?_ | refine blk2_nrm ?_ | refine blk2_ret ?_ | refine blk2_at ?_ | (refine blk2_ex ?_ ?_; decide) | refine W2_sas ?_ | refine W2_ss ?_ | refine W2_sret ?_ | refine W2_sexit ?_ | ((first | apply W2_sra | apply W2_srda | apply W2_runa | apply W2_runda); (conv => lhs; simp only [go_sem, ibin, ishift]) <;> rfl) | ((first | apply W2_sct | apply W2_t2); (conv => lhs; simp only [go_sem]) <;> rfl; rfl) | ((first | apply W2_scf | apply W2_f2); (conv => lhs; simp only [go_sem]) <;> rfl; rfl) | refine W2_ret ?_ | refine W2_exit ?_ | refine W2_skip ?_ | refine W2_seq ?_ | refine W2_block ?_)
  generalize hG : t.g = G
  refine W2_loopw (fun m e h => ∃ (t' : Tab) (out : List Int) (i : Nat), m = t'.q.length * 1000001 + (t'.q.length - i) ∧ t'.Ok ∧ out.length + t'.q.length ≤ 1000000 ∧ i ≤ t'.q.length ∧ (∀ (j : Nat) d, j < i → t'.q[j]? = some d → freeC t'.hold (marks (List.replicate t'.hold.length false) (t'.q.take j)) d = false) ∧ grants t'.q.length t' out = G ∧
    e = [(1, .ptr 0 0), (2, .ptr 1 0), (4, .sl 1 2 0 out.length none), (5, .i .i64 i)] ∧ h = [some (.obj [.fz 1 (t'.hold.map cI), .fz 2 (t'.q.map cQ)]), some (.obj [.nils, .nils]), some (.arr 1 (out.map cI))]) (t.q.length * 1000001 + t.q.length)
    ⟨t, [], 0, by omega, hk, by simpa using hl, by omega, fun j d hj => by omega, hG, rfl, rfl⟩ ?_
  clear hG hk hl
  clear t
  rintro m e h ⟨t, out, i, rfl, hk, hl, hi, hno, hG, rfl, rfl⟩
  (repeat' with_reducible first | refine thn2_nrm ?_ | refine thn2_ret ?_ | refine thn2_ex ?_ | refine blk2_nrm ?_ | refine blk2_ret ?_ | refine blk2_at ?_ | (refine blk2_ex ?_ ?_; decide) | refine W2_sas ?_ | refine W2_ss ?_ | refine W2_sret ?_ | refine W2_sexit ?_ | ((first | apply W2_sra | apply W2_srda | apply W2_runa | apply W2_runda); (conv => lhs; simp only [go_sem, ibin, ishift]) <;> rfl) | ((first | apply W2_sct | apply W2_t2); (conv => lhs; simp only [go_sem]) <;> rfl; rfl) | ((first | apply W2_scf | apply W2_f2); (conv => lhs; simp only [go_sem]) <;> rfl; rfl) | refine W2_ret ?_ | refine W2_exit ?_ | refine W2_skip ?_ | refine W2_seq ?_ | refine W2_block ?_)
  (((first | with_reducible apply W2_sc | with_reducible apply W2_cond); ((conv => lhs; simp only [go_sem]) <;> with_reducible rfl)) <;> intro hx <;> (try rw [hx]) <;> simp only [Bool.or_eq_true, Bool.and_eq_true, decide_eq_true_eq, Bool.or_eq_false_iff, Bool.and_eq_false_iff, decide_eq_false_iff_not, Bool.not_eq_true', Bool.not_eq_false', bne_iff_ne, beq_iff_eq, not_or, not_and, Decidable.not_not, ne_eq, gt_iff_lt, ge_iff_le, Int.not_lt, Int.not_le] at hx)
  · have hil : i < t.q.length := by omega
    have hg := List.getElem?_eq_getElem hil
    have hcok := hk.q _ (List.getElem_mem hil)
    generalize t.q[i] = cl at hg hcok
    have hmf := may_free (hold := t.hold) (A := t.q.take i) (fun d hd => (hk.q d (List.mem_of_mem_take hd)).1) hcok.1
    (repeat' with_reducible first | refine thn2_nrm ?_ | refine thn2_ret ?_ | refine thn2_ex ?_ | refine blk2_nrm ?_ | refine blk2_ret ?_ | refine blk2_at ?_ | (refine blk2_ex ?_ ?_; decide) | refine W2_sas ?_ | refine W2_ss ?_ | refine W2_sret ?_ | refine W2_sexit ?_ | ((first | apply W2_sra | apply W2_srda | apply W2_runa | apply W2_runda); (conv => lhs; simp only [go_sem, ibin, ishift]) <;> rfl) | ((first | apply W2_sct | apply W2_t2); (conv => lhs; simp only [go_sem]) <;> rfl; rfl) | ((first | apply W2_scf | apply W2_f2); (conv => lhs; simp only [go_sem]) <;> rfl; rfl) | refine W2_ret ?_ | refine W2_exit ?_ | refine W2_skip ?_ | refine W2_seq ?_ | refine W2_block ?_)
    ((with_reducible first | apply W2_scall | apply W2_scalld | apply W2_calla | apply W2_callda | apply run2a_sound); ((conv => lhs; simp only [go_sem, ibin, ishift]) <;> with_reducible rfl))
    refine CK_pure (rmay_spec c t hk (by omega) i cl hg) rfl ?_
    rintro v h' ⟨rfl, rfl⟩
    rw [hmf]
    have hwi := wS (show i < 9223372036854775807 by omega)
    cases hf : freeC t.hold (marks (List.replicate t.hold.length false) (t.q.take i)) cl with
    | false =>
      ((with_reducible first | apply WO2_finw | apply WO2_fina); ((conv => lhs; simp only [go_sem, ibin, ishift]) <;> with_reducible rfl))
      (repeat' with_reducible first | refine thn2_nrm ?_ | refine thn2_ret ?_ | refine thn2_ex ?_ | refine blk2_nrm ?_ | refine blk2_ret ?_ | refine blk2_at ?_ | (refine blk2_ex ?_ ?_; decide) | refine W2_sas ?_ | refine W2_ss ?_ | refine W2_sret ?_ | refine W2_sexit ?_ | ((first | apply W2_sra | apply W2_srda | apply W2_runa | apply W2_runda); (conv => lhs; simp only [go_sem, ibin, ishift, hwi]) <;> rfl) | ((first | apply W2_sct | apply W2_t2); (conv => lhs; simp only [go_sem]) <;> rfl; rfl) | ((first | apply W2_scf | apply W2_f2); (conv => lhs; simp only [go_sem]) <;> rfl; rfl) | refine W2_ret ?_ | refine W2_exit ?_ | refine W2_skip ?_ | refine W2_seq ?_ | refine W2_block ?_)
      refine ⟨_, _, .refl, t.q.length * 1000001 + (t.q.length - (i + 1)), by omega, t, out, i + 1, rfl, hk, hl, by omega, fun j d hj hd => ?_, hG, rfl, rfl⟩
      by_cases hji : j = i
      · subst hji
        rw [hg] at hd; cases hd; exact hf
      · exact hno j d (by omega) hd
    | true =>
      have hsc := scan_first hno hg hf
      have hgr := grants_one (t := t) (out := out) hsc hg
      have hroom1 : t.hold.length * 8 ≤ room := by simp only [room]; have := hk.hl; omega
      ((with_reducible first | apply WO2_finw | apply WO2_fina); ((conv => lhs; simp only [go_sem, ibin, ishift]) <;> with_reducible rfl))
      (repeat' with_reducible first | refine thn2_nrm ?_ | refine thn2_ret ?_ | refine thn2_ex ?_ | refine blk2_nrm ?_ | refine blk2_ret ?_ | refine blk2_at ?_ | (refine blk2_ex ?_ ?_; decide) | refine W2_sas ?_ | refine W2_ss ?_ | refine W2_sret ?_ | refine W2_sexit ?_ | ((first | apply W2_sra | apply W2_srda | apply W2_runa | apply W2_runda); (conv => lhs; simp only [go_sem, ibin, ishift, hg, hil, cQ, hroom1, Nat.zero_add]) <;> rfl) | ((first | apply W2_sct | apply W2_t2); (conv => lhs; simp only [go_sem]) <;> rfl; rfl) | ((first | apply W2_scf | apply W2_f2); (conv => lhs; simp only [go_sem]) <;> rfl; rfl) | refine W2_ret ?_ | refine W2_exit ?_ | refine W2_skip ?_ | refine W2_seq ?_ | refine W2_block ?_)
      refine W2_loopu (fun m u g => ∃ k, k + m = cl.ns.length ∧ u = [(32, .i .i64 k)] ∧ g = [(5, .arr 1 ((markL t.hold (cl.ns.take k) cl.t).map cI))]) cl.ns.length ⟨0, by omega, rfl, rfl⟩ rfl rfl ?_
      rintro m u g ⟨k, hk2, rfl, rfl⟩
      intro e1 h1 he1 hh1; simp only [egd, supE, hgd, supH, Nat.reduceEqDiff, Nat.reduceAdd, if_true, if_false, reduceIte] at he1 hh1; subst he1; subst hh1
      (repeat' with_reducible first | refine thn2_nrm ?_ | refine thn2_ret ?_ | refine thn2_ex ?_ | refine blk2_nrm ?_ | refine blk2_ret ?_ | refine blk2_at ?_ | (refine blk2_ex ?_ ?_; decide) | refine W2_sas ?_ | refine W2_ss ?_ | refine W2_sret ?_ | refine W2_sexit ?_ | ((first | apply W2_sra | apply W2_srda | apply W2_runa | apply W2_runda); (conv => lhs; simp only [go_sem, ibin, ishift]) <;> rfl) | ((first | apply W2_sct | apply W2_t2); (conv => lhs; simp only [go_sem]) <;> rfl; rfl) | ((first | apply W2_scf | apply W2_f2); (conv => lhs; simp only [go_sem]) <;> rfl; rfl) | refine W2_ret ?_ | refine W2_exit ?_ | refine W2_skip ?_ | refine W2_seq ?_ | refine W2_block ?_)
      (((first | with_reducible apply W2_sc | with_reducible apply W2_cond); ((conv => lhs; simp only [go_sem]) <;> with_reducible rfl)) <;> intro hx <;> (try rw [hx]) <;> simp only [Bool.or_eq_true, Bool.and_eq_true, decide_eq_true_eq, Bool.or_eq_false_iff, Bool.and_eq_false_iff, decide_eq_false_iff_not, Bool.not_eq_true', Bool.not_eq_false', bne_iff_ne, beq_iff_eq, not_or, not_and, Decidable.not_not, ne_eq, gt_iff_lt, ge_iff_le, Int.not_lt, Int.not_le] at hx)
      · have hjl : k < cl.ns.length := by omega
        have hg := List.getElem?_eq_getElem hjl
        have htk : cl.ns.take (k + 1) = cl.ns.take k ++ [cl.ns[k]] := by rw [List.take_add_one, List.getElem?_eq_getElem hjl]; rfl
        have hmem := List.getElem_mem hjl
        generalize cl.ns[k] = n at hg htk hmem
        obtain ⟨h0, h1⟩ := hcok.1 n hmem
        obtain ⟨a, rfl⟩ := Int.eq_ofNat_of_zero_le h0
        have hs := markL_take t.hold cl.ns cl.t hg
        have hln := markL_len (cl.ns.take k) cl.t t.hold
        generalize markL t.hold (cl.ns.take k) cl.t = l at hs hln
        have hmw : a < l.length := by omega
        have hmm : a < t.hold.length := by omega
        have g2 := List.getElem?_eq_getElem hmw
        generalize l[a] = w at g2
        (repeat' with_reducible first | refine thn2_nrm ?_ | refine thn2_ret ?_ | refine thn2_ex ?_ | refine blk2_nrm ?_ | refine blk2_ret ?_ | refine blk2_at ?_ | (refine blk2_ex ?_ ?_; decide) | refine W2_sas ?_ | refine W2_ss ?_ | refine W2_sret ?_ | refine W2_sexit ?_ | ((first | apply W2_sra | apply W2_srda | apply W2_runa | apply W2_runda); (conv => lhs; simp only [go_sem, ibin, ishift, hg, hjl, h0, h1, hmw, hmm, g2, cI, wS (show k < 9223372036854775807 by omega)]) <;> rfl) | ((first | apply W2_sct | apply W2_t2); (conv => lhs; simp only [go_sem]) <;> rfl; rfl) | ((first | apply W2_scf | apply W2_f2); (conv => lhs; simp only [go_sem]) <;> rfl; rfl) | refine W2_ret ?_ | refine W2_exit ?_ | refine W2_skip ?_ | refine W2_seq ?_ | refine W2_block ?_)
        refine ⟨[0, 1, 2, 3, 4, 5], by decide, rfl, ?_⟩
        exact ⟨cl.ns.length - (k + 1), _, _, by omega, ⟨k + 1, by omega, rfl, rfl⟩, rfl, (by rw [hs, List.map_set]; first | rfl | ((conv => lhs; simp only [go_sem, ibin, ishift]) <;> rfl))⟩
      · have : k = cl.ns.length := by omega
        subst this
        rw [List.take_length]
        have b1 : (0 : Int) ≤ (i : Int) := by omega
        have b2 : (i : Int) ≤ (t.q.length : Int) := by omega
        have b3 : ((i + 1 : Nat) : Int) ≤ (t.q.length : Int) := by omega
        have b4 : (0 : Int) ≤ ((i + 1 : Nat) : Int) := by omega
        have hl1 : (t.q.take i).length = i := by rw [List.length_take]; omega
        have hroom2 : i * 32 ≤ room := by simp only [room]; omega
        have hroom3 : (i + (t.q.length - (i + 1))) * 32 ≤ room := by simp only [room]; omega
        have he : t.q.take i ++ t.q.drop (i + 1) = t.q.eraseIdx i := by rw [List.eraseIdx_eq_take_drop_succ]
        have hel : (t.q.eraseIdx i).length = i + (t.q.length - (i + 1)) := by rw [List.length_eraseIdx_of_lt hil]; omega
        have hmlen := markL_len cl.ns cl.t t.hold
        have htkm : (markL t.hold cl.ns cl.t).take t.hold.length = markL t.hold cl.ns cl.t := List.take_of_length_le (by omega)
        have w00 : IntKind.i64.wrap 0 = 0 := by decide
        have hroom4 : (out.length + 1) * 8 ≤ room := by simp only [room]; omega
        have w0 : IntKind.i64.wrap (-1 + 1) = 0 := by decide
        (repeat' with_reducible first | refine thn2_nrm ?_ | refine thn2_ret ?_ | refine thn2_ex ?_ | refine blk2_nrm ?_ | refine blk2_ret ?_ | refine blk2_at ?_ | (refine blk2_ex ?_ ?_; decide) | refine W2_sas ?_ | refine W2_ss ?_ | refine W2_sret ?_ | refine W2_sexit ?_ | ((first | apply W2_sra | apply W2_srda | apply W2_runa | apply W2_runda); (conv => lhs; simp only [go_sem, ibin, ishift]) <;> rfl) | ((first | apply W2_sct | apply W2_t2); (conv => lhs; simp only [go_sem]) <;> rfl; rfl) | ((first | apply W2_scf | apply W2_f2); (conv => lhs; simp only [go_sem]) <;> rfl; rfl) | refine W2_ret ?_ | refine W2_exit ?_ | refine W2_skip ?_ | refine W2_seq ?_ | refine W2_block ?_)
        (repeat' with_reducible first | refine thn2_nrm ?_ | refine thn2_ret ?_ | refine thn2_ex ?_ | refine blk2_nrm ?_ | refine blk2_ret ?_ | refine blk2_at ?_ | (refine blk2_ex ?_ ?_; decide) | refine W2_sas ?_ | refine W2_ss ?_ | refine W2_sret ?_ | refine W2_sexit ?_ | refine W2_skip ?_ | ((first | apply W2_sct | apply W2_t2); (conv => lhs; simp only [go_sem]) <;> rfl; rfl) | ((first | apply W2_scf | apply W2_f2); (conv => lhs; simp only [go_sem]) <;> rfl; rfl) | refine W2_block ?_ | refine W2_seq ?_ | refine W2_exit ?_)
        (with_reducible first | apply W2_sregG 0 [false, false, true, false, false, false, false, true, false] | apply W2_regG 0 [false, false, true, false, false, false, false, true, false])
        · decide
        · rfl
        · intro esz h; simp [bAt] at h
        ((conv => lhs; simp only [go_sem, ibin, ishift, hwi, b1, b2, b3, b4, hl1, hroom2, hroom3, Int.le_refl, Nat.zero_add, List.take_take, Nat.min_self, List.length_take, List.length_drop]) <;> with_reducible rfl)
        rw [← List.map_append, he, ← hel]
        refine EG_go ?_
        (repeat' with_reducible first | refine thn2_nrm ?_ | refine thn2_ret ?_ | refine thn2_ex ?_ | refine blk2_nrm ?_ | refine blk2_ret ?_ | refine blk2_at ?_ | (refine blk2_ex ?_ ?_; decide) | refine W2_sas ?_ | refine W2_ss ?_ | refine W2_sret ?_ | refine W2_sexit ?_ | ((first | apply W2_sra | apply W2_srda | apply W2_runa | apply W2_runda); (conv => lhs; simp only [go_sem, ibin, ishift, hroom4, w0]) <;> rfl) | ((first | apply W2_sct | apply W2_t2); (conv => lhs; simp only [go_sem]) <;> rfl; rfl) | ((first | apply W2_scf | apply W2_f2); (conv => lhs; simp only [go_sem]) <;> rfl; rfl) | refine W2_ret ?_ | refine W2_exit ?_ | refine W2_skip ?_ | refine W2_seq ?_ | refine W2_block ?_)
        refine ⟨_, _, (Wk.frz 5 rfl).trans ((Wk.frz 8 rfl).trans (Wk.viewq [0, 1, 10] (by decide) rfl (by (conv => lhs; simp only [go_sem, ibin, ishift, hmlen, htkm, w00, Nat.le_refl]) <;> with_reducible rfl) (by (conv => lhs; simp only [go_sem, ibin, ishift, hmlen, htkm, w00, Nat.le_refl]) <;> with_reducible rfl))), _, ?_, ⟨markL t.hold cl.ns cl.t, t.q.eraseIdx i⟩, out ++ [cl.t], 0, rfl, ⟨fun d hd => ?_, ?_⟩, ?_, by simp, fun j d hj => by omega, hgr.symm.trans hG, ?_, ?_⟩
        · simp only; omega
        · simp only [hmlen]; exact hk.q d (List.mem_of_mem_eraseIdx hd)
        · simp only [hmlen]; exact hk.hl
        · simp only [List.length_append, List.length_cons, List.length_nil]; omega
        · rw [List.length_append]; rfl
        · rw [List.map_append]; rfl
  · have hii : i = t.q.length := by omega
    subst hii
    have hend : grants t.q.length t out = (t, out) := grants_end (scan_none.2 fun j d hd => hno j d (List.getElem?_eq_some_iff.1 hd).1 hd)
    rw [hend] at hG
    subst hG
    refine W2.wfrz 2 rfl (by (conv => lhs; simp only [go_sem, ibin, ishift]) <;> with_reducible rfl) (by (conv => lhs; simp only [go_sem, ibin, ishift]) <;> with_reducible rfl) ?_
    (repeat' with_reducible first | refine thn2_nrm ?_ | refine thn2_ret ?_ | refine thn2_ex ?_ | refine blk2_nrm ?_ | refine blk2_ret ?_ | refine blk2_at ?_ | (refine blk2_ex ?_ ?_; decide) | refine W2_sas ?_ | refine W2_ss ?_ | refine W2_sret ?_ | refine W2_sexit ?_ | ((first | apply W2_sra | apply W2_srda | apply W2_runa | apply W2_runda); (conv => lhs; simp only [go_sem, ibin, ishift]) <;> rfl) | ((first | apply W2_sct | apply W2_t2); (conv => lhs; simp only [go_sem]) <;> rfl; rfl) | ((first | apply W2_scf | apply W2_f2); (conv => lhs; simp only [go_sem]) <;> rfl; rfl) | refine W2_ret ?_ | refine W2_exit ?_ | refine W2_skip ?_ | refine W2_seq ?_ | refine W2_block ?_)
    refine ⟨by first | exact .inr rfl | exact .inl rfl, _, _, (by (conv => lhs; simp only [go_sem, ibin, ishift]) <;> with_reducible rfl), (by (conv => lhs; simp only [go_sem, ibin, ishift]) <;> with_reducible rfl), ?_⟩
    refine ⟨[], by decide, rfl, ?_⟩
    exact ⟨rfl, rfl⟩
end Go.Proofs.Ytpgoemmjhnnmoaa.Ab
