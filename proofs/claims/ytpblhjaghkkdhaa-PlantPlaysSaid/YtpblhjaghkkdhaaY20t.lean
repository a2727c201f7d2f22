/- Chapter 20: what a plant tells is the document's. -/
import Derived.Test.YtpblhjaghkkdhaaY20s
namespace Go.Proofs.Ytpblhjaghkkdhaa.Ab
open Go
set_option linter.unusedVariables false
set_option linter.unusedSimpArgs false
variable {T : AT}
theorem tells_spec (c : TabP T) (c2 : TabR20 T) (l : Lay) (p : Pl) (r : Rp) (k : Nat) (h : Sim l p r k) (hk : k ≤ 100000) (hl : l.ns.length ≤ 1000 ∧ l.es.length ≤ 1000) : Ret2 T 3 i_stillagelaw20_Tells [.ptr 0 0, r.v] p.h (fun v h' => v = .b true ∧ h' = p.h) := by
  refine Ret2_fnv c2.tells rfl rfl ?_
  have hz : r.Sz := h.sz hk ⟨by omega, by omega⟩
  have ok := h.ok
  have hlay := h.lay
  have hv : r.v = .agg [.fz 3 (r.l.ns.map cN), .fz 2 (r.l.es.map cD), .fz 2 (r.sp.map cSp), .fz 1 (r.bk.map cI), .fz 3 (r.ls.map cLt), .i .i64 r.mv] := rfl
  rw [hv]
  unfold Pl.h
  (repeat' with_reducible first |apply qA|apply qB|apply qC|apply qD|apply qE|apply qF|(apply qG;decide)|apply qH|apply qI|apply qJ|apply qK|((first|apply qL|apply qM|apply qN|apply qO|((first|apply qP|apply qQ);decide +kernel));(conv=>lhs;simp only[go_sem, ibin, ishift])<;>rfl)|((first|apply qR|apply qS);(conv=>lhs;simp only[go_sem])<;>rfl;rfl)|((first|apply qT|apply qU);(conv=>lhs;simp only[go_sem])<;>rfl;rfl)|apply qV|apply qW|apply qX|apply qY|apply qZ)
  refine W2_loopu (fun mm u g => ∃ n : Int, -1 ≤ n ∧ n ≤ 32 ∧ mm = (32 - n).toNat ∧ u = [(5, .i .i64 n)] ∧ g = []) 33 ⟨-1, by omega, by omega, by omega, rfl, rfl⟩ rfl rfl ?_
  rintro mm u g ⟨n, hn1, hn2, rfl, rfl, rfl⟩
  intro e1 h1 he1 hh1; simp only [egd, supE, hgd, supH, Nat.reduceEqDiff, Nat.reduceAdd, if_true, if_false, reduceIte] at he1 hh1; subst he1; subst hh1
  (repeat' with_reducible first |apply qA|apply qB|apply qC|apply qD|apply qE|apply qF|(apply qG;decide)|apply qH|apply qI|apply qJ|apply qK|((first|apply qL|apply qM|apply qN|apply qO|((first|apply qP|apply qQ);decide +kernel));(conv=>lhs;simp only[go_sem, ibin, ishift])<;>rfl)|((first|apply qR|apply qS);(conv=>lhs;simp only[go_sem])<;>rfl;rfl)|((first|apply qT|apply qU);(conv=>lhs;simp only[go_sem])<;>rfl;rfl)|apply qV|apply qW|apply qX|apply qY|apply qZ)
  (((first | with_reducible apply W2_sc | with_reducible apply W2_cond); ((conv => lhs; simp only [go_sem]) <;> with_reducible rfl)) <;> intro hx <;> (try rw [hx]) <;> simp only [Bool.or_eq_true, Bool.and_eq_true, decide_eq_true_eq, Bool.or_eq_false_iff, Bool.and_eq_false_iff, decide_eq_false_iff_not, Bool.not_eq_true', Bool.not_eq_false', bne_iff_ne, beq_iff_eq, not_or, not_and, Decidable.not_not, ne_eq, gt_iff_lt, ge_iff_le, Int.not_lt, Int.not_le] at hx)
  · have wn : IntKind.i64.wrap (n + 1) = n + 1 := wi _ (by omega) (by omega)
    have de : decide (p.loc n = p.loc n) = true := by simp
    (repeat' with_reducible first |apply qA|apply qB|apply qC|apply qD|apply qE|apply qF|(apply qG;decide)|apply qH|apply qI|apply qJ|apply qK|((first|apply qL|apply qM|apply qN|apply qO|((first|apply qP|apply qQ);decide +kernel));(conv=>lhs;simp only[go_sem, ibin, ishift])<;>rfl)|((first|apply qR|apply qS);(conv=>lhs;simp only[go_sem])<;>rfl;rfl)|((first|apply qT|apply qU);(conv=>lhs;simp only[go_sem])<;>rfl;rfl)|apply qV|apply qW|apply qX|apply qY|apply qZ)
    (repeat' with_reducible first |apply qA|apply qB|apply qC|apply qD|apply qE|apply qF|(apply qG;decide)|apply qH|apply qI|apply qJ|apply qK|apply qX|((first|apply qR|apply qS);(conv=>lhs;simp only[go_sem])<;>rfl;rfl)|((first|apply qT|apply qU);(conv=>lhs;simp only[go_sem])<;>rfl;rfl)|apply qZ|apply qY|apply qW)
    (with_reducible first | apply W2_sregH [3] [false, false, false, true, false] | apply W2_regH [3] [false, false, false, true, false])
    · decide
    · decide
    · rfl
    ((conv => lhs; simp only [go_sem, ibin, ishift]) <;> with_reducible rfl)
    refine EH_call [0, 1, 2] (where_spec c p ok.al n) (by decide) (by simp) rfl rfl rfl (by first | rfl | (simp only [go_sem, Pl.h]; done) | (simp only [go_sem, Pl.h] <;> rfl)) ?_
    rintro v h' ⟨rfl, rfl⟩
    unfold Pl.h
    (with_reducible apply WOH_go (by decide); ((conv => lhs; simp only [go_sem, ibin, ishift]) <;> with_reducible rfl))
    refine EH_ck ?_
    refine CK_pure (rwhere__spec c2 r hz n) (by first | rfl | (simp only [go_sem, Rp.v]; done) | (simp only [go_sem, Rp.v] <;> rfl)) ?_
    rintro v h' ⟨rfl, rfl⟩
    rw [h.loc]
    (with_reducible((first|apply WO2_finw|apply WO2_fina);(conv=>lhs;simp only[go_sem, ibin, ishift, de])<;>rfl))
    (repeat' with_reducible first |apply qA|apply qB|apply qC|apply qD|apply qE|apply qF|(apply qG;decide)|apply qH|apply qI|apply qJ|apply qK|((first|apply qL|apply qM|apply qN|apply qO|((first|apply qP|apply qQ);decide +kernel));(conv=>lhs;simp only[go_sem, ibin, ishift, wn])<;>rfl)|((first|apply qR|apply qS);(conv=>lhs;simp only[go_sem])<;>rfl;rfl)|((first|apply qT|apply qU);(conv=>lhs;simp only[go_sem])<;>rfl;rfl)|apply qV|apply qW|apply qX|apply qY|apply qZ)
    refine ⟨[0, 1, 2, 3], by decide, rfl, ?_⟩
    exact ⟨(32 - (n + 1)).toNat, _, _, by omega, ⟨n + 1, by omega, by omega, rfl, rfl, rfl⟩, rfl, (by first | rfl | ((conv => lhs; simp only [go_sem, ibin, ishift]) <;> rfl))⟩
  (repeat' with_reducible first |apply qA|apply qB|apply qC|apply qD|apply qE|apply qF|(apply qG;decide)|apply qH|apply qI|apply qJ|apply qK|((first|apply qL|apply qM|apply qN|apply qO|((first|apply qP|apply qQ);decide +kernel));(conv=>lhs;simp only[go_sem, ibin, ishift])<;>rfl)|((first|apply qR|apply qS);(conv=>lhs;simp only[go_sem])<;>rfl;rfl)|((first|apply qT|apply qU);(conv=>lhs;simp only[go_sem])<;>rfl;rfl)|apply qV|apply qW|apply qX|apply qY|apply qZ)
  refine W2_loopu (fun mm u g => ∃ n : Int, -1 ≤ n ∧ n ≤ r.l.ns.length + 1 ∧ mm = (r.l.ns.length + 1 - n).toNat ∧ u = [(6, .i .i64 n)] ∧ g = []) (r.l.ns.length + 2) ⟨-1, by omega, by omega, by omega, rfl, rfl⟩ rfl rfl ?_
  rintro mm u g ⟨n, hn1, hn2, rfl, rfl, rfl⟩
  intro e1 h1 he1 hh1; simp only [egd, supE, hgd, supH, Nat.reduceEqDiff, Nat.reduceAdd, if_true, if_false, reduceIte] at he1 hh1; subst he1; subst hh1
  (repeat' with_reducible first |apply qA|apply qB|apply qC|apply qD|apply qE|apply qF|(apply qG;decide)|apply qH|apply qI|apply qJ|apply qK|((first|apply qL|apply qM|apply qN|apply qO|((first|apply qP|apply qQ);decide +kernel));(conv=>lhs;simp only[go_sem, ibin, ishift])<;>rfl)|((first|apply qR|apply qS);(conv=>lhs;simp only[go_sem])<;>rfl;rfl)|((first|apply qT|apply qU);(conv=>lhs;simp only[go_sem])<;>rfl;rfl)|apply qV|apply qW|apply qX|apply qY|apply qZ)
  (((first | with_reducible apply W2_sc | with_reducible apply W2_cond); ((conv => lhs; simp only [go_sem]) <;> with_reducible rfl)) <;> intro hx <;> (try rw [hx]) <;> simp only [Bool.or_eq_true, Bool.and_eq_true, decide_eq_true_eq, Bool.or_eq_false_iff, Bool.and_eq_false_iff, decide_eq_false_iff_not, Bool.not_eq_true', Bool.not_eq_false', bne_iff_ne, beq_iff_eq, not_or, not_and, Decidable.not_not, ne_eq, gt_iff_lt, ge_iff_le, Int.not_lt, Int.not_le] at hx)
  · have wn : IntKind.i64.wrap (n + 1) = n + 1 := wi _ (by omega) (by rw [hlay] at hx; omega)
    have de : decide (p.tote n = p.tote n) = true := by simp
    (repeat' with_reducible first |apply qA|apply qB|apply qC|apply qD|apply qE|apply qF|(apply qG;decide)|apply qH|apply qI|apply qJ|apply qK|((first|apply qL|apply qM|apply qN|apply qO|((first|apply qP|apply qQ);decide +kernel));(conv=>lhs;simp only[go_sem, ibin, ishift])<;>rfl)|((first|apply qR|apply qS);(conv=>lhs;simp only[go_sem])<;>rfl;rfl)|((first|apply qT|apply qU);(conv=>lhs;simp only[go_sem])<;>rfl;rfl)|apply qV|apply qW|apply qX|apply qY|apply qZ)
    (repeat' with_reducible first |apply qA|apply qB|apply qC|apply qD|apply qE|apply qF|(apply qG;decide)|apply qH|apply qI|apply qJ|apply qK|apply qX|((first|apply qR|apply qS);(conv=>lhs;simp only[go_sem])<;>rfl;rfl)|((first|apply qT|apply qU);(conv=>lhs;simp only[go_sem])<;>rfl;rfl)|apply qZ|apply qY|apply qW)
    (with_reducible first | apply W2_sregH [3] [false, false, false, true, false] | apply W2_regH [3] [false, false, false, true, false])
    · decide
    · decide
    · rfl
    ((conv => lhs; simp only [go_sem, ibin, ishift]) <;> with_reducible rfl)
    refine EH_call [0, 1, 2] (at_spec c p n) (by decide) (by simp) rfl rfl rfl (by first | rfl | (simp only [go_sem, Pl.h]; done) | (simp only [go_sem, Pl.h] <;> rfl)) ?_
    rintro v h' ⟨rfl, rfl⟩
    unfold Pl.h
    (with_reducible apply WOH_go (by decide); ((conv => lhs; simp only [go_sem, ibin, ishift]) <;> with_reducible rfl))
    refine EH_ck ?_
    refine CK_pure (rat__spec c2 r hz n) (by first | rfl | (simp only [go_sem, Rp.v]; done) | (simp only [go_sem, Rp.v] <;> rfl)) ?_
    rintro v h' ⟨rfl, rfl⟩
    rw [h.tote]
    (with_reducible((first|apply WO2_finw|apply WO2_fina);(conv=>lhs;simp only[go_sem, ibin, ishift, de])<;>rfl))
    (repeat' with_reducible first |apply qA|apply qB|apply qC|apply qD|apply qE|apply qF|(apply qG;decide)|apply qH|apply qI|apply qJ|apply qK|((first|apply qL|apply qM|apply qN|apply qO|((first|apply qP|apply qQ);decide +kernel));(conv=>lhs;simp only[go_sem, ibin, ishift, wn])<;>rfl)|((first|apply qR|apply qS);(conv=>lhs;simp only[go_sem])<;>rfl;rfl)|((first|apply qT|apply qU);(conv=>lhs;simp only[go_sem])<;>rfl;rfl)|apply qV|apply qW|apply qX|apply qY|apply qZ)
    refine ⟨[0, 1, 2, 3], by decide, rfl, ?_⟩
    exact ⟨(r.l.ns.length + 1 - (n + 1)).toNat, _, _, by omega, ⟨n + 1, by omega, by omega, rfl, rfl, rfl⟩, rfl, (by first | rfl | ((conv => lhs; simp only [go_sem, ibin, ishift]) <;> rfl))⟩
  (repeat' with_reducible first |apply qA|apply qB|apply qC|apply qD|apply qE|apply qF|(apply qG;decide)|apply qH|apply qI|apply qJ|apply qK|((first|apply qL|apply qM|apply qN|apply qO|((first|apply qP|apply qQ);decide +kernel));(conv=>lhs;simp only[go_sem, ibin, ishift])<;>rfl)|((first|apply qR|apply qS);(conv=>lhs;simp only[go_sem])<;>rfl;rfl)|((first|apply qT|apply qU);(conv=>lhs;simp only[go_sem])<;>rfl;rfl)|apply qV|apply qW|apply qX|apply qY|apply qZ)
  have wel : IntKind.i64.wrap ((r.l.es.length : Int) + 1) = (r.l.es.length : Int) + 1 := wi _ (by omega) (by rw [hlay]; omega)
  refine W2_loopu (fun mm u g => ∃ n : Int, -1 ≤ n ∧ n ≤ r.l.es.length + 2 ∧ mm = (r.l.es.length + 2 - n).toNat ∧ u = [(7, .i .i64 n)] ∧ g = []) (r.l.es.length + 3) ⟨-1, by omega, by omega, by omega, rfl, rfl⟩ rfl rfl ?_
  rintro mm u g ⟨n, hn1, hn2, rfl, rfl, rfl⟩
  intro e1 h1 he1 hh1; simp only [egd, supE, hgd, supH, Nat.reduceEqDiff, Nat.reduceAdd, if_true, if_false, reduceIte] at he1 hh1; subst he1; subst hh1
  by_cases hc : n ≤ r.l.es.length + 1
  · have zc : decide (n ≤ (r.l.es.length : Int) + 1) = true := decide_eq_true hc
    have wn : IntKind.i64.wrap (n + 1) = n + 1 := wi _ (by omega) (by rw [hlay] at hc; omega)
    (repeat' with_reducible first |apply qA|apply qB|apply qC|apply qD|apply qE|apply qF|(apply qG;decide)|apply qH|apply qI|apply qJ|apply qK|((first|apply qL|apply qM|apply qN|apply qO|((first|apply qP|apply qQ);decide +kernel));(conv=>lhs;simp only[go_sem, ibin, ishift, wel, zc])<;>rfl)|((first|apply qR|apply qS);(conv=>lhs;simp only[go_sem])<;>rfl;rfl)|((first|apply qT|apply qU);(conv=>lhs;simp only[go_sem])<;>rfl;rfl)|apply qV|apply qW|apply qX|apply qY|apply qZ)
    (repeat' with_reducible first |apply qA|apply qB|apply qC|apply qD|apply qE|apply qF|(apply qG;decide)|apply qH|apply qI|apply qJ|apply qK|apply qX|((first|apply qR|apply qS);(conv=>lhs;simp only[go_sem])<;>rfl;rfl)|((first|apply qT|apply qU);(conv=>lhs;simp only[go_sem])<;>rfl;rfl)|apply qZ|apply qY|apply qW)
    (with_reducible first | apply W2_sregH [3] [false, false, false, true, false] | apply W2_regH [3] [false, false, false, true, false])
    · decide
    · decide
    · rfl
    ((conv => lhs; simp only [go_sem, ibin, ishift]) <;> with_reducible rfl)
    refine EH_call [0, 1, 2] (works_spec c p n) (by decide) (by simp) rfl rfl rfl (by first | rfl | (simp only [go_sem, Pl.h]; done) | (simp only [go_sem, Pl.h] <;> rfl)) ?_
    rintro v h' ⟨rfl, rfl⟩
    unfold Pl.h
    (with_reducible apply WOH_go (by decide); ((conv => lhs; simp only [go_sem, ibin, ishift]) <;> with_reducible rfl))
    refine EH_ck ?_
    refine CK_pure (rworks_spec c2 r hz n) (by first | rfl | (simp only [go_sem, Rp.v]; done) | (simp only [go_sem, Rp.v] <;> rfl)) ?_
    rintro v h' ⟨rfl, rfl⟩
    rw [h.works]
    have y2 : (p.works n != p.works n) = false := by simp
    (with_reducible((first|apply WO2_finw|apply WO2_fina);(conv=>lhs;simp only[go_sem, ibin, ishift, y2])<;>rfl))
    (repeat' with_reducible first |apply qA|apply qB|apply qC|apply qD|apply qE|apply qF|(apply qG;decide)|apply qH|apply qI|apply qJ|apply qK|((first|apply qL|apply qM|apply qN|apply qO|((first|apply qP|apply qQ);decide +kernel));(conv=>lhs;simp only[go_sem, ibin, ishift, wn])<;>rfl)|((first|apply qR|apply qS);(conv=>lhs;simp only[go_sem])<;>rfl;rfl)|((first|apply qT|apply qU);(conv=>lhs;simp only[go_sem])<;>rfl;rfl)|apply qV|apply qW|apply qX|apply qY|apply qZ)
    refine ⟨[0, 1, 2, 3], by decide, rfl, ?_⟩
    exact ⟨(r.l.es.length + 2 - (n + 1)).toNat, _, _, by omega, ⟨n + 1, by omega, by omega, rfl, rfl, rfl⟩, rfl, (by first | rfl | ((conv => lhs; simp only [go_sem, ibin, ishift]) <;> rfl))⟩
  have zc : decide (n ≤ (r.l.es.length : Int) + 1) = false := decide_eq_false hc
  have hmv := h.mv
  (repeat' with_reducible first |apply qA|apply qB|apply qC|apply qD|apply qE|apply qF|(apply qG;decide)|apply qH|apply qI|apply qJ|apply qK|((first|apply qL|apply qM|apply qN|apply qO|((first|apply qP|apply qQ);decide +kernel));(conv=>lhs;simp only[go_sem, ibin, ishift, wel, zc])<;>rfl)|((first|apply qR|apply qS);(conv=>lhs;simp only[go_sem])<;>rfl;rfl)|((first|apply qT|apply qU);(conv=>lhs;simp only[go_sem])<;>rfl;rfl)|apply qV|apply qW|apply qX|apply qY|apply qZ)
  (repeat' with_reducible first |apply qA|apply qB|apply qC|apply qD|apply qE|apply qF|(apply qG;decide)|apply qH|apply qI|apply qJ|apply qK|apply qX|((first|apply qR|apply qS);(conv=>lhs;simp only[go_sem])<;>rfl;rfl)|((first|apply qT|apply qU);(conv=>lhs;simp only[go_sem])<;>rfl;rfl)|apply qZ|apply qY|apply qW)
  (with_reducible first | apply W2_sregH [3] [false, false, false, true, false] | apply W2_regH [3] [false, false, false, true, false])
  · decide
  · decide
  · rfl
  ((conv => lhs; simp only [go_sem, ibin, ishift]) <;> with_reducible rfl)
  refine EH_call [0, 1, 2] (moves_spec c p) (by decide) (by simp) rfl rfl rfl (by first | rfl | (simp only [go_sem, Pl.h]; done) | (simp only [go_sem, Pl.h] <;> rfl)) ?_
  rintro v h' ⟨rfl, rfl⟩
  unfold Pl.h
  have zm : decide (p.mv = r.mv) = true := decide_eq_true hmv.symm
  (with_reducible apply WOH_go (by decide); ((conv => lhs; simp only [go_sem, ibin, ishift, zm]) <;> with_reducible rfl))
  refine EH_go ?_
  (repeat' with_reducible first |apply qA|apply qB|apply qC|apply qD|apply qE|apply qF|(apply qG;decide)|apply qH|apply qI|apply qJ|apply qK|((first|apply qL|apply qM|apply qN|apply qO|((first|apply qP|apply qQ);decide +kernel));(conv=>lhs;simp only[go_sem, ibin, ishift])<;>rfl)|((first|apply qR|apply qS);(conv=>lhs;simp only[go_sem])<;>rfl;rfl)|((first|apply qT|apply qU);(conv=>lhs;simp only[go_sem])<;>rfl;rfl)|apply qV|apply qW|apply qX|apply qY|apply qZ)
  refine ⟨by first | exact .inr rfl | exact .inl rfl, _, _, (by (conv => lhs; simp only [go_sem, ibin, ishift]) <;> with_reducible rfl), (by (conv => lhs; simp only [go_sem, ibin, ishift]) <;> with_reducible rfl), ?_⟩
  refine ⟨[0, 1, 2], by decide, rfl, ?_⟩
  exact ⟨rfl, (by first | rfl | (simp only [go_sem, Pl.h]; done) | (simp only [go_sem, Pl.h] <;> rfl))⟩
structure TabV (T : AT) : Prop where
  w : TabA T
  r : TabR20 T
end Go.Proofs.Ytpblhjaghkkdhaa.Ab
