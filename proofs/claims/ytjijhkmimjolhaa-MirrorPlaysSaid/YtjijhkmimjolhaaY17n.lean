/- Chapter 17: the document's mirror: taken, put, without. -/
import Derived.Test.YtjijhkmimjolhaaY17m
namespace Go.Proofs.Ytjijhkmimjolhaa.Ab
open Go
set_option linter.unusedVariables false
set_option linter.unusedSimpArgs false
variable {T : AT}
def rbusyAt (es : List Ed) (n : Int) (x : Td) : Bool := match es[(x.dev - 1).toNat]? with | some e => decide (e.b = n) | none => false
def Rm.taken (r : Rm) (n : Int) : Bool := r.td.any (rbusyAt r.l.es n) || decide (r.tote n > 0)
theorem rtaken_spec (c : TabR17 T) (r : Rm) (hz : r.Sz) (x : Int) : Ret2 T 0 i_stillageref17_Taken [r.v, .i .i64 x] [] (fun v h' => v = .b (r.taken x) ∧ h' = []) := by
  refine Ret2_fnv c.taken rfl rfl ?_
  have hl := hz.td
  have hel := hz.es
  have hdv := hz.dv
  have hv : r.v = .agg [.fz 3 (r.l.ns.map cN), .fz 2 (r.l.es.map cD), .fz 2 (r.sp.map cSp), .fz 3 (r.td.map cTd), .fz 1 (r.dn.map cI), .fz 3 (r.ls.map cTd)] := rfl
  rw [hv]
  unfold Rm.taken
  generalize hL : r.td = l at hl hdv
  (repeat' with_reducible first |apply qA|apply qB|apply qC|apply qD|apply qE|apply qF|(apply qG;decide)|apply qH|apply qI|apply qJ|apply qK|((first|apply qL|apply qM|apply qN|apply qO|((first|apply qP|apply qQ);decide +kernel));(conv=>lhs;simp only[go_sem, ibin, ishift])<;>rfl)|((first|apply qR|apply qS);(conv=>lhs;simp only[go_sem])<;>rfl;rfl)|((first|apply qT|apply qU);(conv=>lhs;simp only[go_sem])<;>rfl;rfl)|apply qV|apply qW|apply qX|apply qY|apply qZ)
  refine W2_loopu (fun m u g => ∃ j, j + m = l.length ∧ (l.take j).any (rbusyAt r.l.es x) = false ∧ u = [(9, .i .i64 j)] ∧ g = []) l.length ⟨0, by omega, by simp, rfl, rfl⟩ rfl rfl ?_
  rintro m u g ⟨j, hj, hno, rfl, rfl⟩
  intro e1 h1 he1 hh1; simp only [egd, supE, hgd, supH, Nat.reduceEqDiff, Nat.reduceAdd, if_true, if_false, reduceIte] at he1 hh1; subst he1; subst hh1
  (repeat' with_reducible first |apply qA|apply qB|apply qC|apply qD|apply qE|apply qF|(apply qG;decide)|apply qH|apply qI|apply qJ|apply qK|((first|apply qL|apply qM|apply qN|apply qO|((first|apply qP|apply qQ);decide +kernel));(conv=>lhs;simp only[go_sem, ibin, ishift])<;>rfl)|((first|apply qR|apply qS);(conv=>lhs;simp only[go_sem])<;>rfl;rfl)|((first|apply qT|apply qU);(conv=>lhs;simp only[go_sem])<;>rfl;rfl)|apply qV|apply qW|apply qX|apply qY|apply qZ)
  (((first | with_reducible apply W2_sc | with_reducible apply W2_cond); ((conv => lhs; simp only [go_sem]) <;> with_reducible rfl)) <;> intro hx <;> (try rw [hx]) <;> simp only [Bool.or_eq_true, Bool.and_eq_true, decide_eq_true_eq, Bool.or_eq_false_iff, Bool.and_eq_false_iff, decide_eq_false_iff_not, Bool.not_eq_true', Bool.not_eq_false', bne_iff_ne, beq_iff_eq, not_or, not_and, Decidable.not_not, ne_eq, gt_iff_lt, ge_iff_le, Int.not_lt, Int.not_le] at hx)
  · have hjl : j < l.length := by omega
    have hg := List.getElem?_eq_getElem hjl
    have htk : l.take (j + 1) = l.take j ++ [l[j]] := by rw [List.take_add_one, List.getElem?_eq_getElem hjl]; rfl
    have hmem := List.getElem_mem hjl
    generalize l[j] = e at hg htk hmem
    have h0 : (0 : Int) ≤ (j : Int) := by omega
    have h1 : (j : Int) < (l.length : Int) := by omega
    have hd := hdv e hmem
    have wd : IntKind.i64.wrap (e.dev - 1) = e.dev - 1 := wi _ (by omega) (by omega)
    have r0 : (0 : Int) ≤ e.dev - 1 := by omega
    have r1 : e.dev - 1 < (r.l.es.length : Int) := by omega
    have r2 : (e.dev - 1).toNat < r.l.es.length := by omega
    have he := List.getElem?_eq_getElem r2
    generalize r.l.es[(e.dev - 1).toNat] = f at he
    have hb : rbusyAt r.l.es x e = decide (f.b = x) := by simp only [rbusyAt, he]
    (repeat' with_reducible first |apply qA|apply qB|apply qC|apply qD|apply qE|apply qF|(apply qG;decide)|apply qH|apply qI|apply qJ|apply qK|((first|apply qL|apply qM|apply qN|apply qO|((first|apply qP|apply qQ);decide +kernel));(conv=>lhs;simp only[go_sem, ibin, ishift, hg, hjl, cTd, h0, h1, wd, r0, r1, r2, he, cD])<;>rfl)|((first|apply qR|apply qS);(conv=>lhs;simp only[go_sem])<;>rfl;rfl)|((first|apply qT|apply qU);(conv=>lhs;simp only[go_sem])<;>rfl;rfl)|apply qV|apply qW|apply qX|apply qY|apply qZ)
    (((first | with_reducible apply W2_sc | with_reducible apply W2_cond); ((conv => lhs; simp only [go_sem]) <;> with_reducible rfl)) <;> intro hx <;> (try rw [hx]) <;> simp only [Bool.or_eq_true, Bool.and_eq_true, decide_eq_true_eq, Bool.or_eq_false_iff, Bool.and_eq_false_iff, decide_eq_false_iff_not, Bool.not_eq_true', Bool.not_eq_false', bne_iff_ne, beq_iff_eq, not_or, not_and, Decidable.not_not, ne_eq, gt_iff_lt, ge_iff_le, Int.not_lt, Int.not_le] at hx)
    · have ht : l.any (rbusyAt r.l.es x) = true := List.any_eq_true.2 ⟨e, List.mem_of_getElem? hg, by rw [hb]; exact decide_eq_true hx⟩
      rw [ht]
      (repeat' with_reducible first |apply qA|apply qB|apply qC|apply qD|apply qE|apply qF|(apply qG;decide)|apply qH|apply qI|apply qJ|apply qK|((first|apply qL|apply qM|apply qN|apply qO|((first|apply qP|apply qQ);decide +kernel));(conv=>lhs;simp only[go_sem, ibin, ishift])<;>rfl)|((first|apply qR|apply qS);(conv=>lhs;simp only[go_sem])<;>rfl;rfl)|((first|apply qT|apply qU);(conv=>lhs;simp only[go_sem])<;>rfl;rfl)|apply qV|apply qW|apply qX|apply qY|apply qZ)
      refine ⟨by first | exact .inr rfl | exact .inl rfl, _, _, (by (conv => lhs; simp only [go_sem, ibin, ishift]) <;> with_reducible rfl), (by (conv => lhs; simp only [go_sem, ibin, ishift]) <;> with_reducible rfl), ?_⟩
      refine ⟨[], by decide, rfl, ?_⟩
      exact ⟨rfl, rfl⟩
    · (repeat' with_reducible first |apply qA|apply qB|apply qC|apply qD|apply qE|apply qF|(apply qG;decide)|apply qH|apply qI|apply qJ|apply qK|((first|apply qL|apply qM|apply qN|apply qO|((first|apply qP|apply qQ);decide +kernel));(conv=>lhs;simp only[go_sem, ibin, ishift, wS (show j < 9223372036854775807 by omega)])<;>rfl)|((first|apply qR|apply qS);(conv=>lhs;simp only[go_sem])<;>rfl;rfl)|((first|apply qT|apply qU);(conv=>lhs;simp only[go_sem])<;>rfl;rfl)|apply qV|apply qW|apply qX|apply qY|apply qZ)
      refine ⟨[0], by decide, rfl, ?_⟩
      exact ⟨l.length - (j + 1), _, _, by omega, ⟨j + 1, by omega, by rw [htk, List.any_append, hno]; simp [hb, hx], rfl, rfl⟩, rfl, (by first | rfl | ((conv => lhs; simp only [go_sem, ibin, ishift]) <;> rfl))⟩
  · have : j = l.length := by omega
    subst this
    rw [List.take_length] at hno
    rw [hno]
    (repeat' with_reducible first |apply qA|apply qB|apply qC|apply qD|apply qE|apply qF|(apply qG;decide)|apply qH|apply qI|apply qJ|apply qK|((first|apply qL|apply qM|apply qN|apply qO|((first|apply qP|apply qQ);decide +kernel));(conv=>lhs;simp only[go_sem, ibin, ishift])<;>rfl)|((first|apply qR|apply qS);(conv=>lhs;simp only[go_sem])<;>rfl;rfl)|((first|apply qT|apply qU);(conv=>lhs;simp only[go_sem])<;>rfl;rfl)|apply qV|apply qW|apply qX|apply qY|apply qZ)
    (with_reducible((first|apply pA|apply pB|apply pC|apply pD|apply pE|((first|apply pF|apply pG);decide +kernel));(conv=>lhs;simp only[go_sem, ibin, ishift])<;>rfl))
    refine CK_pure (rat__spec c r hz x) (by first | rfl | (simp only [go_sem, Rm.v, hL]; done) | (simp only [go_sem, Rm.v, hL] <;> rfl)) ?_
    rintro v h' ⟨rfl, rfl⟩
    (with_reducible((first|apply WO2_finw|apply WO2_fina);(conv=>lhs;simp only[go_sem, ibin, ishift])<;>rfl))
    (repeat' with_reducible first |apply qA|apply qB|apply qC|apply qD|apply qE|apply qF|(apply qG;decide)|apply qH|apply qI|apply qJ|apply qK|((first|apply qL|apply qM|apply qN|apply qO|((first|apply qP|apply qQ);decide +kernel));(conv=>lhs;simp only[go_sem, ibin, ishift])<;>rfl)|((first|apply qR|apply qS);(conv=>lhs;simp only[go_sem])<;>rfl;rfl)|((first|apply qT|apply qU);(conv=>lhs;simp only[go_sem])<;>rfl;rfl)|apply qV|apply qW|apply qX|apply qY|apply qZ)
    refine ⟨by first | exact .inr rfl | exact .inl rfl, _, _, (by (conv => lhs; simp only [go_sem, ibin, ishift]) <;> with_reducible rfl), (by (conv => lhs; simp only [go_sem, ibin, ishift]) <;> with_reducible rfl), ?_⟩
    refine ⟨[], by decide, rfl, ?_⟩
    exact ⟨rfl, rfl⟩
def Rm.out (r : Rm) (t n d : Int) : Bool := decide (t < 1 ∨ 30 < t ∨ n < 0 ∨ (r.l.ns.length : Int) ≤ n ∨ d < 1 ∨ (r.l.es.length : Int) < d)
theorem rout_spec (c : TabR17 T) (r : Rm) (t n d : Int) : Ret2 T 0 i_stillageref17_outside [r.v, .i .i64 t, .i .i64 n, .i .i64 d] [] (fun v h' => v = .b (r.out t n d) ∧ h' = []) := by
  refine Ret2_fnv c.outside rfl rfl ?_
  unfold Rm.v
  (repeat' with_reducible first |apply qA|apply qB|apply qC|apply qD|apply qE|apply qF|(apply qG;decide)|apply qH|apply qI|apply qJ|apply qK|((first|apply qL|apply qM|apply qN|apply qO|((first|apply qP|apply qQ);decide +kernel));(conv=>lhs;simp only[go_sem, ibin, ishift])<;>rfl)|((first|apply qR|apply qS);(conv=>lhs;simp only[go_sem])<;>rfl;rfl)|((first|apply qT|apply qU);(conv=>lhs;simp only[go_sem])<;>rfl;rfl)|apply qV|apply qW|apply qX|apply qY|apply qZ)
  refine ⟨by first | exact .inr rfl | exact .inl rfl, _, _, (by (conv => lhs; simp only [go_sem, ibin, ishift]) <;> with_reducible rfl), (by (conv => lhs; simp only [go_sem, ibin, ishift]) <;> with_reducible rfl), ?_⟩
  refine ⟨[], by decide, rfl, ?_⟩
  refine ⟨?_, rfl⟩
  simp only [SV.cv, Rm.out]
  congr 2
  rw [Bool.eq_iff_iff]; simp only [Bool.or_eq_true, decide_eq_true_eq]; omega
def Rm.put (r : Rm) (t n : Int) : Rm × Int :=
  if t < 1 ∨ 30 < t ∨ n < 0 ∨ (r.l.ns.length : Int) ≤ n then (r, 1) else if 0 ≤ r.loc t then (r, 2) else if r.taken n = true then (r, 100) else (⟨r.l, r.sp ++ [⟨t, n⟩], r.td, r.dn, r.ls⟩, 0)
theorem rput_spec (c : TabR17 T) (r : Rm) (hz : r.Sz) (t n : Int) : Ret2 T 0 i_stillageref17_Put [r.v, .i .i64 t, .i .i64 n] [] (fun v h' => v = .tup [(r.put t n).1.v, .i .i64 (r.put t n).2] ∧ h' = []) := by
  refine Ret2_fnv c.put rfl rfl ?_
  have hv : r.v = .agg [.fz 3 (r.l.ns.map cN), .fz 2 (r.l.es.map cD), .fz 2 (r.sp.map cSp), .fz 3 (r.td.map cTd), .fz 1 (r.dn.map cI), .fz 3 (r.ls.map cTd)] := rfl
  rw [hv]
  unfold Rm.put
  (repeat' with_reducible first |apply qA|apply qB|apply qC|apply qD|apply qE|apply qF|(apply qG;decide)|apply qH|apply qI|apply qJ|apply qK|((first|apply qL|apply qM|apply qN|apply qO|((first|apply qP|apply qQ);decide +kernel));(conv=>lhs;simp only[go_sem, ibin, ishift])<;>rfl)|((first|apply qR|apply qS);(conv=>lhs;simp only[go_sem])<;>rfl;rfl)|((first|apply qT|apply qU);(conv=>lhs;simp only[go_sem])<;>rfl;rfl)|apply qV|apply qW|apply qX|apply qY|apply qZ)
  (((first | with_reducible apply W2_sc | with_reducible apply W2_cond); ((conv => lhs; simp only [go_sem]) <;> with_reducible rfl)) <;> intro hx <;> (try rw [hx]) <;> simp only [Bool.or_eq_true, Bool.and_eq_true, decide_eq_true_eq, Bool.or_eq_false_iff, Bool.and_eq_false_iff, decide_eq_false_iff_not, Bool.not_eq_true', Bool.not_eq_false', bne_iff_ne, beq_iff_eq, not_or, not_and, Decidable.not_not, ne_eq, gt_iff_lt, ge_iff_le, Int.not_lt, Int.not_le] at hx)
  · rw [if_pos (by omega), hv]
    (repeat' with_reducible first |apply qA|apply qB|apply qC|apply qD|apply qE|apply qF|(apply qG;decide)|apply qH|apply qI|apply qJ|apply qK|((first|apply qL|apply qM|apply qN|apply qO|((first|apply qP|apply qQ);decide +kernel));(conv=>lhs;simp only[go_sem, ibin, ishift])<;>rfl)|((first|apply qR|apply qS);(conv=>lhs;simp only[go_sem])<;>rfl;rfl)|((first|apply qT|apply qU);(conv=>lhs;simp only[go_sem])<;>rfl;rfl)|apply qV|apply qW|apply qX|apply qY|apply qZ)
    refine ⟨by first | exact .inr rfl | exact .inl rfl, _, _, (by (conv => lhs; simp only [go_sem, ibin, ishift]) <;> with_reducible rfl), (by (conv => lhs; simp only [go_sem, ibin, ishift]) <;> with_reducible rfl), ?_⟩
    refine ⟨[], by decide, rfl, ?_⟩
    exact ⟨rfl, rfl⟩
  rw [if_neg (by omega)]
  (repeat' with_reducible first |apply qA|apply qB|apply qC|apply qD|apply qE|apply qF|(apply qG;decide)|apply qH|apply qI|apply qJ|apply qK|((first|apply qL|apply qM|apply qN|apply qO|((first|apply qP|apply qQ);decide +kernel));(conv=>lhs;simp only[go_sem, ibin, ishift])<;>rfl)|((first|apply qR|apply qS);(conv=>lhs;simp only[go_sem])<;>rfl;rfl)|((first|apply qT|apply qU);(conv=>lhs;simp only[go_sem])<;>rfl;rfl)|apply qV|apply qW|apply qX|apply qY|apply qZ)
  (with_reducible((first|apply pA|apply pB|apply pC|apply pD|apply pE|((first|apply pF|apply pG);decide +kernel));(conv=>lhs;simp only[go_sem, ibin, ishift])<;>rfl))
  refine CK_pure (rwhere__spec c r hz t) (by first | rfl | (simp only [go_sem, Rm.v]; done) | (simp only [go_sem, Rm.v] <;> rfl)) ?_
  rintro v h' ⟨rfl, rfl⟩
  (with_reducible((first|apply WO2_finw|apply WO2_fina);(conv=>lhs;simp only[go_sem, ibin, ishift])<;>rfl))
  (repeat' with_reducible first |apply qA|apply qB|apply qC|apply qD|apply qE|apply qF|(apply qG;decide)|apply qH|apply qI|apply qJ|apply qK|((first|apply qL|apply qM|apply qN|apply qO|((first|apply qP|apply qQ);decide +kernel));(conv=>lhs;simp only[go_sem, ibin, ishift])<;>rfl)|((first|apply qR|apply qS);(conv=>lhs;simp only[go_sem])<;>rfl;rfl)|((first|apply qT|apply qU);(conv=>lhs;simp only[go_sem])<;>rfl;rfl)|apply qV|apply qW|apply qX|apply qY|apply qZ)
  (((first | with_reducible apply W2_sc | with_reducible apply W2_cond); ((conv => lhs; simp only [go_sem]) <;> with_reducible rfl)) <;> intro hx <;> (try rw [hx]) <;> simp only [Bool.or_eq_true, Bool.and_eq_true, decide_eq_true_eq, Bool.or_eq_false_iff, Bool.and_eq_false_iff, decide_eq_false_iff_not, Bool.not_eq_true', Bool.not_eq_false', bne_iff_ne, beq_iff_eq, not_or, not_and, Decidable.not_not, ne_eq, gt_iff_lt, ge_iff_le, Int.not_lt, Int.not_le] at hx)
  · rw [if_pos (by omega), hv]
    (repeat' with_reducible first |apply qA|apply qB|apply qC|apply qD|apply qE|apply qF|(apply qG;decide)|apply qH|apply qI|apply qJ|apply qK|((first|apply qL|apply qM|apply qN|apply qO|((first|apply qP|apply qQ);decide +kernel));(conv=>lhs;simp only[go_sem, ibin, ishift])<;>rfl)|((first|apply qR|apply qS);(conv=>lhs;simp only[go_sem])<;>rfl;rfl)|((first|apply qT|apply qU);(conv=>lhs;simp only[go_sem])<;>rfl;rfl)|apply qV|apply qW|apply qX|apply qY|apply qZ)
    refine ⟨by first | exact .inr rfl | exact .inl rfl, _, _, (by (conv => lhs; simp only [go_sem, ibin, ishift]) <;> with_reducible rfl), (by (conv => lhs; simp only [go_sem, ibin, ishift]) <;> with_reducible rfl), ?_⟩
    refine ⟨[], by decide, rfl, ?_⟩
    exact ⟨rfl, rfl⟩
  rw [if_neg (by omega)]
  (repeat' with_reducible first |apply qA|apply qB|apply qC|apply qD|apply qE|apply qF|(apply qG;decide)|apply qH|apply qI|apply qJ|apply qK|((first|apply qL|apply qM|apply qN|apply qO|((first|apply qP|apply qQ);decide +kernel));(conv=>lhs;simp only[go_sem, ibin, ishift])<;>rfl)|((first|apply qR|apply qS);(conv=>lhs;simp only[go_sem])<;>rfl;rfl)|((first|apply qT|apply qU);(conv=>lhs;simp only[go_sem])<;>rfl;rfl)|apply qV|apply qW|apply qX|apply qY|apply qZ)
  (with_reducible((first|apply pA|apply pB|apply pC|apply pD|apply pE|((first|apply pF|apply pG);decide +kernel));(conv=>lhs;simp only[go_sem, ibin, ishift])<;>rfl))
  refine CK_pure (rtaken_spec c r hz n) (by first | rfl | (simp only [go_sem, Rm.v]; done) | (simp only [go_sem, Rm.v] <;> rfl)) ?_
  rintro v h' ⟨rfl, rfl⟩
  cases hk : r.taken n with
  | true =>
    rw [if_pos rfl, hv]
    (with_reducible((first|apply WO2_finw|apply WO2_fina);(conv=>lhs;simp only[go_sem, ibin, ishift])<;>rfl))
    (repeat' with_reducible first |apply qA|apply qB|apply qC|apply qD|apply qE|apply qF|(apply qG;decide)|apply qH|apply qI|apply qJ|apply qK|((first|apply qL|apply qM|apply qN|apply qO|((first|apply qP|apply qQ);decide +kernel));(conv=>lhs;simp only[go_sem, ibin, ishift])<;>rfl)|((first|apply qR|apply qS);(conv=>lhs;simp only[go_sem])<;>rfl;rfl)|((first|apply qT|apply qU);(conv=>lhs;simp only[go_sem])<;>rfl;rfl)|apply qV|apply qW|apply qX|apply qY|apply qZ)
    refine ⟨by first | exact .inr rfl | exact .inl rfl, _, _, (by (conv => lhs; simp only [go_sem, ibin, ishift]) <;> with_reducible rfl), (by (conv => lhs; simp only [go_sem, ibin, ishift]) <;> with_reducible rfl), ?_⟩
    refine ⟨[], by decide, rfl, ?_⟩
    exact ⟨rfl, rfl⟩
  | false =>
    rw [if_neg (by decide)]
    have hv2 : (Rm.mk r.l (r.sp ++ [⟨t, n⟩]) r.td r.dn r.ls).v = .agg [.fz 3 (r.l.ns.map cN), .fz 2 (r.l.es.map cD), .fz 2 ((r.sp ++ [Sp.mk t n]).map cSp), .fz 3 (r.td.map cTd), .fz 1 (r.dn.map cI), .fz 3 (r.ls.map cTd)] := rfl
    rw [hv2]
    have hsp := hz.sp
    have hroom : (0 + r.sp.length) * 16 ≤ room := by simp only [room]; omega
    have hroom2 : r.sp.length * 16 ≤ room := by simp only [room]; omega
    have hroom3 : (r.sp.length + 1) * 16 ≤ room := by simp only [room]; omega
    have htk : r.sp.take r.sp.length = r.sp := List.take_length
    (with_reducible((first|apply WO2_finw|apply WO2_fina);(conv=>lhs;simp only[go_sem, ibin, ishift])<;>rfl))
    (repeat' with_reducible first |apply qA|apply qB|apply qC|apply qD|apply qE|apply qF|(apply qG;decide)|apply qH|apply qI|apply qJ|apply qK|((first|apply qL|apply qM|apply qN|apply qO|((first|apply qP|apply qQ);decide +kernel));(conv=>lhs;simp only[go_sem, ibin, ishift])<;>rfl)|((first|apply qR|apply qS);(conv=>lhs;simp only[go_sem])<;>rfl;rfl)|((first|apply qT|apply qU);(conv=>lhs;simp only[go_sem])<;>rfl;rfl)|apply qV|apply qW|apply qX|apply qY|apply qZ)
    (repeat' with_reducible first |apply qA|apply qB|apply qC|apply qD|apply qE|apply qF|(apply qG;decide)|apply qH|apply qI|apply qJ|apply qK|apply qX|((first|apply qR|apply qS);(conv=>lhs;simp only[go_sem])<;>rfl;rfl)|((first|apply qT|apply qU);(conv=>lhs;simp only[go_sem])<;>rfl;rfl)|apply qZ|apply qY|apply qW)
    ((repeat' with_reducible first |apply qA|apply qB|apply qC|apply qD|apply qE|apply qF|(apply qG;decide)|apply qH|apply qI|apply qJ|apply qK|apply qX|((first|apply qR|apply qS);(conv=>lhs;simp only[go_sem])<;>rfl;rfl)|((first|apply qT|apply qU);(conv=>lhs;simp only[go_sem])<;>rfl;rfl)|apply qZ|apply qY|apply qW);with_reducible((first|apply qL|apply qM|apply qN|apply qO|((first|apply qP|apply qQ);decide +kernel));(conv=>lhs;simp only[go_sem, ibin, ishift, hroom, hroom2, hroom3, htk, Nat.le_refl])<;>rfl))
    have hap : List.map cSp r.sp ++ [[PV.i IntKind.i64 t, PV.i IntKind.i64 n]] = List.map cSp (r.sp ++ [Sp.mk t n]) := by rw [List.map_append]; rfl
    have hsl : (r.sp ++ [Sp.mk t n]).length = r.sp.length + 1 := by simp
    have hst : (r.sp ++ [Sp.mk t n]).take (r.sp.length + 1) = r.sp ++ [Sp.mk t n] := List.take_of_length_le (by simp)
    rw [hap]
    refine W2.wfrz 5 rfl (by (conv => lhs; simp only [go_sem, ibin, ishift, hsl, hst, Nat.le_refl]) <;> with_reducible rfl) (by (conv => lhs; simp only [go_sem, ibin, ishift, hsl, hst, Nat.le_refl]) <;> with_reducible rfl) ?_
    (repeat' with_reducible first |apply qA|apply qB|apply qC|apply qD|apply qE|apply qF|(apply qG;decide)|apply qH|apply qI|apply qJ|apply qK|((first|apply qL|apply qM|apply qN|apply qO|((first|apply qP|apply qQ);decide +kernel));(conv=>lhs;simp only[go_sem, ibin, ishift])<;>rfl)|((first|apply qR|apply qS);(conv=>lhs;simp only[go_sem])<;>rfl;rfl)|((first|apply qT|apply qU);(conv=>lhs;simp only[go_sem])<;>rfl;rfl)|apply qV|apply qW|apply qX|apply qY|apply qZ)
    refine ⟨by first | exact .inr rfl | exact .inl rfl, _, _, (by (conv => lhs; simp only [go_sem, ibin, ishift]) <;> with_reducible rfl), (by (conv => lhs; simp only [go_sem, ibin, ishift]) <;> with_reducible rfl), ?_⟩
    refine ⟨[], by decide, rfl, ?_⟩
    exact ⟨rfl, rfl⟩
theorem rwithout_spec (c : TabR17 T) (l : List Td) (hl : l.length ≤ 100000) (i : Nat) (hi : i < l.length) : Ret2 T 0 i_stillageref17_without [.fz 3 (l.map cTd), .i .i64 i] [] (fun v h' => v = .fz 3 ((l.take i ++ l.drop (i + 1)).map cTd) ∧ h' = []) := by
  refine Ret2_fnv c.without rfl rfl ?_
  have i0 : (0 : Int) ≤ (i : Int) := by omega
  have i1 : (i : Int) ≤ (l.length : Int) := by omega
  have wi1 := wS (show i < 9223372036854775807 by omega)
  have i2 : (0 : Int) ≤ ((i + 1 : Nat) : Int) := by omega
  have i3 : ((i + 1 : Nat) : Int) ≤ (l.length : Int) := by omega
  have e1 : (l.take i).length = i := by rw [List.length_take]; omega
  have e2 : (l.drop (i + 1)).length = l.length - (i + 1) := List.length_drop
  have hroom : (0 + i) * 24 ≤ room := by simp only [room]; omega
  have hroom2 : i * 24 ≤ room := by simp only [room]; omega
  have hroom3 : (i + (l.length - (i + 1))) * 24 ≤ room := by simp only [room]; omega
  (repeat' with_reducible first |apply qA|apply qB|apply qC|apply qD|apply qE|apply qF|(apply qG;decide)|apply qH|apply qI|apply qJ|apply qK|((first|apply qL|apply qM|apply qN|apply qO|((first|apply qP|apply qQ);decide +kernel));(conv=>lhs;simp only[go_sem, ibin, ishift])<;>rfl)|((first|apply qR|apply qS);(conv=>lhs;simp only[go_sem])<;>rfl;rfl)|((first|apply qT|apply qU);(conv=>lhs;simp only[go_sem])<;>rfl;rfl)|apply qV|apply qW|apply qX|apply qY|apply qZ)
  (repeat' with_reducible first |apply qA|apply qB|apply qC|apply qD|apply qE|apply qF|(apply qG;decide)|apply qH|apply qI|apply qJ|apply qK|apply qX|((first|apply qR|apply qS);(conv=>lhs;simp only[go_sem])<;>rfl;rfl)|((first|apply qT|apply qU);(conv=>lhs;simp only[go_sem])<;>rfl;rfl)|apply qZ|apply qY|apply qW)
  ((repeat' with_reducible first |apply qA|apply qB|apply qC|apply qD|apply qE|apply qF|(apply qG;decide)|apply qH|apply qI|apply qJ|apply qK|apply qX|((first|apply qR|apply qS);(conv=>lhs;simp only[go_sem])<;>rfl;rfl)|((first|apply qT|apply qU);(conv=>lhs;simp only[go_sem])<;>rfl;rfl)|apply qZ|apply qY|apply qW);with_reducible((first|apply qL|apply qM|apply qN|apply qO|((first|apply qP|apply qQ);decide +kernel));(conv=>lhs;simp only[go_sem, ibin, ishift, i0, i1, i2, i3, wi1, e1, e2, hroom, hroom2, hroom3, Nat.le_refl])<;>rfl))
  have hlen : (l.take i ++ l.drop (i + 1)).length = i + (l.length - (i + 1)) := by rw [List.length_append, e1, e2]
  have htt : (l.take i).take i = l.take i := by rw [List.take_take, Nat.min_self]
  rw [htt, ← List.map_append]
  generalize l.take i ++ l.drop (i + 1) = L at hlen
  rw [← hlen]
  refine W2.wfrz 2 rfl (by (conv => lhs; simp only [go_sem, ibin, ishift]) <;> with_reducible rfl) (by (conv => lhs; simp only [go_sem, ibin, ishift]) <;> with_reducible rfl) ?_
  (repeat' with_reducible first |apply qA|apply qB|apply qC|apply qD|apply qE|apply qF|(apply qG;decide)|apply qH|apply qI|apply qJ|apply qK|((first|apply qL|apply qM|apply qN|apply qO|((first|apply qP|apply qQ);decide +kernel));(conv=>lhs;simp only[go_sem, ibin, ishift])<;>rfl)|((first|apply qR|apply qS);(conv=>lhs;simp only[go_sem])<;>rfl;rfl)|((first|apply qT|apply qU);(conv=>lhs;simp only[go_sem])<;>rfl;rfl)|apply qV|apply qW|apply qX|apply qY|apply qZ)
  refine ⟨by first | exact .inr rfl | exact .inl rfl, _, _, (by (conv => lhs; simp only [go_sem, ibin, ishift]) <;> with_reducible rfl), (by (conv => lhs; simp only [go_sem, ibin, ishift]) <;> with_reducible rfl), ?_⟩
  refine ⟨[], by decide, rfl, ?_⟩
  exact ⟨rfl, rfl⟩
theorem rfnd_none {r : Rm} {d : Int} (h : findX Td.dev d r.td 0 = none) : r.fnd d = -1 := by simp only [Rm.fnd, h]
theorem rfnd_some {r : Rm} {d : Int} {i : Nat} {x : Td} (h : findX Td.dev d r.td 0 = some (i, x)) : r.fnd d = (i : Int) := by simp only [Rm.fnd, h]
def wout {α : Type} (l : List α) (i : Nat) : List α := l.take i ++ l.drop (i + 1)
def Rm.drop (r : Rm) (d : Int) : Rm × Int :=
  if r.out 1 0 d = true then (r, 1) else match findX Td.dev d r.td 0 with | none => (r, 4) | some (i, _) => (⟨r.l, r.sp, wout r.td i, r.dn, r.ls⟩, 0)
theorem rdrop_spec (c : TabR17 T) (r : Rm) (hz : r.Sz) (d : Int) : Ret2 T 0 i_stillageref17_Drop [r.v, .i .i64 d] [] (fun v h' => v = .tup [(r.drop d).1.v, .i .i64 (r.drop d).2] ∧ h' = []) := by
  refine Ret2_fnv c.drop rfl rfl ?_
  have hv : r.v = .agg [.fz 3 (r.l.ns.map cN), .fz 2 (r.l.es.map cD), .fz 2 (r.sp.map cSp), .fz 3 (r.td.map cTd), .fz 1 (r.dn.map cI), .fz 3 (r.ls.map cTd)] := rfl
  rw [hv]
  unfold Rm.drop
  (repeat' with_reducible first |apply qA|apply qB|apply qC|apply qD|apply qE|apply qF|(apply qG;decide)|apply qH|apply qI|apply qJ|apply qK|((first|apply qL|apply qM|apply qN|apply qO|((first|apply qP|apply qQ);decide +kernel));(conv=>lhs;simp only[go_sem, ibin, ishift])<;>rfl)|((first|apply qR|apply qS);(conv=>lhs;simp only[go_sem])<;>rfl;rfl)|((first|apply qT|apply qU);(conv=>lhs;simp only[go_sem])<;>rfl;rfl)|apply qV|apply qW|apply qX|apply qY|apply qZ)
  (with_reducible((first|apply pA|apply pB|apply pC|apply pD|apply pE|((first|apply pF|apply pG);decide +kernel));(conv=>lhs;simp only[go_sem, ibin, ishift])<;>rfl))
  refine CK_pure (rout_spec c r 1 0 d) (by first | rfl | (simp only [go_sem, Rm.v]; done) | (simp only [go_sem, Rm.v] <;> rfl)) ?_
  rintro v h' ⟨rfl, rfl⟩
  cases ho : r.out 1 0 d with
  | true =>
    rw [if_pos rfl, hv]
    (with_reducible((first|apply WO2_finw|apply WO2_fina);(conv=>lhs;simp only[go_sem, ibin, ishift])<;>rfl))
    (repeat' with_reducible first |apply qA|apply qB|apply qC|apply qD|apply qE|apply qF|(apply qG;decide)|apply qH|apply qI|apply qJ|apply qK|((first|apply qL|apply qM|apply qN|apply qO|((first|apply qP|apply qQ);decide +kernel));(conv=>lhs;simp only[go_sem, ibin, ishift])<;>rfl)|((first|apply qR|apply qS);(conv=>lhs;simp only[go_sem])<;>rfl;rfl)|((first|apply qT|apply qU);(conv=>lhs;simp only[go_sem])<;>rfl;rfl)|apply qV|apply qW|apply qX|apply qY|apply qZ)
    refine ⟨by first | exact .inr rfl | exact .inl rfl, _, _, (by (conv => lhs; simp only [go_sem, ibin, ishift]) <;> with_reducible rfl), (by (conv => lhs; simp only [go_sem, ibin, ishift]) <;> with_reducible rfl), ?_⟩
    refine ⟨[], by decide, rfl, ?_⟩
    exact ⟨rfl, rfl⟩
  | false =>
    rw [if_neg (by decide)]
    (with_reducible((first|apply WO2_finw|apply WO2_fina);(conv=>lhs;simp only[go_sem, ibin, ishift])<;>rfl))
    (repeat' with_reducible first |apply qA|apply qB|apply qC|apply qD|apply qE|apply qF|(apply qG;decide)|apply qH|apply qI|apply qJ|apply qK|((first|apply qL|apply qM|apply qN|apply qO|((first|apply qP|apply qQ);decide +kernel));(conv=>lhs;simp only[go_sem, ibin, ishift])<;>rfl)|((first|apply qR|apply qS);(conv=>lhs;simp only[go_sem])<;>rfl;rfl)|((first|apply qT|apply qU);(conv=>lhs;simp only[go_sem])<;>rfl;rfl)|apply qV|apply qW|apply qX|apply qY|apply qZ)
    (with_reducible((first|apply pA|apply pB|apply pC|apply pD|apply pE|((first|apply pF|apply pG);decide +kernel));(conv=>lhs;simp only[go_sem, ibin, ishift])<;>rfl))
    refine CK_pure (rfind__spec c r hz d) (by first | rfl | (simp only [go_sem, Rm.v]; done) | (simp only [go_sem, Rm.v] <;> rfl)) ?_
    rintro v h' ⟨rfl, rfl⟩
    cases hf : findX Td.dev d r.td 0 with
    | none =>
      rw [rfnd_none hf]
      simp only
      rw [hv]
      (with_reducible((first|apply WO2_finw|apply WO2_fina);(conv=>lhs;simp only[go_sem, ibin, ishift])<;>rfl))
      (repeat' with_reducible first |apply qA|apply qB|apply qC|apply qD|apply qE|apply qF|(apply qG;decide)|apply qH|apply qI|apply qJ|apply qK|((first|apply qL|apply qM|apply qN|apply qO|((first|apply qP|apply qQ);decide +kernel));(conv=>lhs;simp only[go_sem, ibin, ishift])<;>rfl)|((first|apply qR|apply qS);(conv=>lhs;simp only[go_sem])<;>rfl;rfl)|((first|apply qT|apply qU);(conv=>lhs;simp only[go_sem])<;>rfl;rfl)|apply qV|apply qW|apply qX|apply qY|apply qZ)
      refine ⟨by first | exact .inr rfl | exact .inl rfl, _, _, (by (conv => lhs; simp only [go_sem, ibin, ishift]) <;> with_reducible rfl), (by (conv => lhs; simp only [go_sem, ibin, ishift]) <;> with_reducible rfl), ?_⟩
      refine ⟨[], by decide, rfl, ?_⟩
      exact ⟨rfl, rfl⟩
    | some p =>
      obtain ⟨i, x⟩ := p
      rw [rfnd_some hf]
      simp only
      have hi := (List.getElem?_eq_some_iff.1 (findX_mem hf).2.2).1
      have hlt : decide ((i : Int) < 0) = false := decide_eq_false (by omega)
      have hv2 : (Rm.mk r.l r.sp (wout r.td i) r.dn r.ls).v = .agg [.fz 3 (r.l.ns.map cN), .fz 2 (r.l.es.map cD), .fz 2 (r.sp.map cSp), .fz 3 ((wout r.td i).map cTd), .fz 1 (r.dn.map cI), .fz 3 (r.ls.map cTd)] := rfl
      rw [hv2]
      (with_reducible((first|apply WO2_finw|apply WO2_fina);(conv=>lhs;simp only[go_sem, ibin, ishift])<;>rfl))
      (repeat' with_reducible first |apply qA|apply qB|apply qC|apply qD|apply qE|apply qF|(apply qG;decide)|apply qH|apply qI|apply qJ|apply qK|((first|apply qL|apply qM|apply qN|apply qO|((first|apply qP|apply qQ);decide +kernel));(conv=>lhs;simp only[go_sem, ibin, ishift, hlt])<;>rfl)|((first|apply qR|apply qS);(conv=>lhs;simp only[go_sem])<;>rfl;rfl)|((first|apply qT|apply qU);(conv=>lhs;simp only[go_sem])<;>rfl;rfl)|apply qV|apply qW|apply qX|apply qY|apply qZ)
      (with_reducible((first|apply pA|apply pB|apply pC|apply pD|apply pE|((first|apply pF|apply pG);decide +kernel));(conv=>lhs;simp only[go_sem, ibin, ishift])<;>rfl))
      refine CK_pure (rwithout_spec c r.td hz.td i hi) rfl ?_
      rintro v h' ⟨rfl, rfl⟩
      (with_reducible((first|apply WO2_finw|apply WO2_fina);(conv=>lhs;simp only[go_sem, ibin, ishift])<;>rfl))
      (repeat' with_reducible first |apply qA|apply qB|apply qC|apply qD|apply qE|apply qF|(apply qG;decide)|apply qH|apply qI|apply qJ|apply qK|((first|apply qL|apply qM|apply qN|apply qO|((first|apply qP|apply qQ);decide +kernel));(conv=>lhs;simp only[go_sem, ibin, ishift])<;>rfl)|((first|apply qR|apply qS);(conv=>lhs;simp only[go_sem])<;>rfl;rfl)|((first|apply qT|apply qU);(conv=>lhs;simp only[go_sem])<;>rfl;rfl)|apply qV|apply qW|apply qX|apply qY|apply qZ)
      refine ⟨by first | exact .inr rfl | exact .inl rfl, _, _, (by (conv => lhs; simp only [go_sem, ibin, ishift]) <;> with_reducible rfl), (by (conv => lhs; simp only [go_sem, ibin, ishift]) <;> with_reducible rfl), ?_⟩
      refine ⟨[], by decide, rfl, ?_⟩
      exact ⟨rfl, rfl⟩
end Go.Proofs.Ytjijhkmimjolhaa.Ab
