/- Chapter 17: the document's mirror: moved, mask. -/
import Derived.Test.YtjijhkmimjolhaaY17n
namespace Go.Proofs.Ytjijhkmimjolhaa.Ab
open Go
set_option linter.unusedVariables false
set_option linter.unusedSimpArgs false
variable {T : AT}
def mvS (t b : Int) (s : Sp) : Sp := if s.tote = t then ⟨s.tote, b⟩ else s
def Rm.moved (r : Rm) (d t : Int) : Rm × Int :=
  if r.out t 0 d = true then (r, 1) else match findX Td.dev d r.td 0 with
    | none => (r, 4)
    | some (i, x) => if x.tote = t then (match r.l.es[(d - 1).toNat]? with | some e => (⟨r.l, r.sp.map (mvS t e.b), wout r.td i, r.dn, r.ls⟩, 0) | none => (r, 0)) else (r, 160)
theorem rmoved_spec (c : TabR17 T) (r : Rm) (hz : r.Sz) (d t : Int) : Ret2 T 0 i_stillageref17_Moved [r.v, .i .i64 d, .i .i64 t] [] (fun v h' => v = .tup [(r.moved d t).1.v, .i .i64 (r.moved d t).2] ∧ h' = []) := by
  refine Ret2_fnv c.moved rfl rfl ?_
  have hv : r.v = .agg [.fz 3 (r.l.ns.map cN), .fz 2 (r.l.es.map cD), .fz 2 (r.sp.map cSp), .fz 3 (r.td.map cTd), .fz 1 (r.dn.map cI), .fz 3 (r.ls.map cTd)] := rfl
  rw [hv]
  unfold Rm.moved
  (repeat' with_reducible first |apply qA|apply qB|apply qC|apply qD|apply qE|apply qF|(apply qG;decide)|apply qH|apply qI|apply qJ|apply qK|((first|apply qL|apply qM|apply qN|apply qO|((first|apply qP|apply qQ);decide +kernel));(conv=>lhs;simp only[go_sem, ibin, ishift])<;>rfl)|((first|apply qR|apply qS);(conv=>lhs;simp only[go_sem])<;>rfl;rfl)|((first|apply qT|apply qU);(conv=>lhs;simp only[go_sem])<;>rfl;rfl)|apply qV|apply qW|apply qX|apply qY|apply qZ)
  (with_reducible((first|apply pA|apply pB|apply pC|apply pD|apply pE|((first|apply pF|apply pG);decide +kernel));(conv=>lhs;simp only[go_sem, ibin, ishift])<;>rfl))
  refine CK_pure (rout_spec c r t 0 d) (by first | rfl | (simp only [go_sem, Rm.v]; done) | (simp only [go_sem, Rm.v] <;> rfl)) ?_
  rintro v h' ⟨rfl, rfl⟩
  cases ho : r.out t 0 d with
  | true =>
    rw [if_pos rfl, hv]
    (with_reducible((first|apply WO2_finw|apply WO2_fina);(conv=>lhs;simp only[go_sem, ibin, ishift])<;>rfl))
    (repeat' with_reducible first |apply qA|apply qB|apply qC|apply qD|apply qE|apply qF|(apply qG;decide)|apply qH|apply qI|apply qJ|apply qK|((first|apply qL|apply qM|apply qN|apply qO|((first|apply qP|apply qQ);decide +kernel));(conv=>lhs;simp only[go_sem, ibin, ishift])<;>rfl)|((first|apply qR|apply qS);(conv=>lhs;simp only[go_sem])<;>rfl;rfl)|((first|apply qT|apply qU);(conv=>lhs;simp only[go_sem])<;>rfl;rfl)|apply qV|apply qW|apply qX|apply qY|apply qZ)
    refine ⟨by first | exact .inr rfl | exact .inl rfl, _, _, (by (conv => lhs; simp only [go_sem, ibin, ishift]) <;> with_reducible rfl), (by (conv => lhs; simp only [go_sem, ibin, ishift]) <;> with_reducible rfl), ?_⟩
    refine ⟨[], by decide, rfl, ?_⟩
    exact ⟨rfl, rfl⟩
  | false =>
    rw [if_neg (by decide)]
    (with_reducible((first|apply WO2_finw|apply WO2_fina);(conv=>lhs;simp only[go_sem, ibin, ishift])<;>rfl))
    (repeat' with_reducible first |apply qA|apply qB|apply qC|apply qD|apply qE|apply qF|(apply qG;decide)|apply qH|apply qI|apply qJ|apply qK|((first|apply qL|apply qM|apply qN|apply qO|((first|apply qP|apply qQ);decide +kernel));(conv=>lhs;simp only[go_sem, ibin, ishift])<;>rfl)|((first|apply qR|apply qS);(conv=>lhs;simp only[go_sem])<;>rfl;rfl)|((first|apply qT|apply qU);(conv=>lhs;simp only[go_sem])<;>rfl;rfl)|apply qV|apply qW|apply qX|apply qY|apply qZ)
    (with_reducible((first|apply pA|apply pB|apply pC|apply pD|apply pE|((first|apply pF|apply pG);decide +kernel));(conv=>lhs;simp only[go_sem, ibin, ishift])<;>rfl))
    refine CK_pure (rfind__spec c r hz d) (by first | rfl | (simp only [go_sem, Rm.v]; done) | (simp only [go_sem, Rm.v] <;> rfl)) ?_
    rintro v h' ⟨rfl, rfl⟩
    cases hf : findX Td.dev d r.td 0 with
    | none =>
      rw [rfnd_none hf]
      simp only
      rw [hv]
      (with_reducible((first|apply WO2_finw|apply WO2_fina);(conv=>lhs;simp only[go_sem, ibin, ishift])<;>rfl))
      (repeat' with_reducible first |apply qA|apply qB|apply qC|apply qD|apply qE|apply qF|(apply qG;decide)|apply qH|apply qI|apply qJ|apply qK|((first|apply qL|apply qM|apply qN|apply qO|((first|apply qP|apply qQ);decide +kernel));(conv=>lhs;simp only[go_sem, ibin, ishift])<;>rfl)|((first|apply qR|apply qS);(conv=>lhs;simp only[go_sem])<;>rfl;rfl)|((first|apply qT|apply qU);(conv=>lhs;simp only[go_sem])<;>rfl;rfl)|apply qV|apply qW|apply qX|apply qY|apply qZ)
      refine ⟨by first | exact .inr rfl | exact .inl rfl, _, _, (by (conv => lhs; simp only [go_sem, ibin, ishift]) <;> with_reducible rfl), (by (conv => lhs; simp only [go_sem, ibin, ishift]) <;> with_reducible rfl), ?_⟩
      refine ⟨[], by decide, rfl, ?_⟩
      exact ⟨rfl, rfl⟩
    | some p =>
      obtain ⟨i, x⟩ := p
      rw [rfnd_some hf]
      obtain ⟨hm, hxd, hgi⟩ := findX_mem hf
      have hi := (List.getElem?_eq_some_iff.1 hgi).1
      have i0 : (0 : Int) ≤ (i : Int) := by omega
      have i1 : (i : Int) < (r.td.length : Int) := by omega
      have hlt : decide ((i : Int) < 0) = false := decide_eq_false (by omega)
      have hd := hz.dv x hm
      rw [hxd] at hd
      have hel := hz.es
      by_cases hxt : x.tote = t
      rotate_left
      · simp only [if_neg hxt]
        have dt : decide (x.tote = t) = false := decide_eq_false hxt
        rw [hv]
        (with_reducible((first|apply WO2_finw|apply WO2_fina);(conv=>lhs;simp only[go_sem, ibin, ishift])<;>rfl))
        (repeat' with_reducible first |apply qA|apply qB|apply qC|apply qD|apply qE|apply qF|(apply qG;decide)|apply qH|apply qI|apply qJ|apply qK|((first|apply qL|apply qM|apply qN|apply qO|((first|apply qP|apply qQ);decide +kernel));(conv=>lhs;simp only[go_sem, ibin, ishift, hlt, i0, i1, hi, hgi, cTd, dt])<;>rfl)|((first|apply qR|apply qS);(conv=>lhs;simp only[go_sem])<;>rfl;rfl)|((first|apply qT|apply qU);(conv=>lhs;simp only[go_sem])<;>rfl;rfl)|apply qV|apply qW|apply qX|apply qY|apply qZ)
        refine ⟨by first | exact .inr rfl | exact .inl rfl, _, _, (by (conv => lhs; simp only [go_sem, ibin, ishift]) <;> with_reducible rfl), (by (conv => lhs; simp only [go_sem, ibin, ishift]) <;> with_reducible rfl), ?_⟩
        refine ⟨[], by decide, rfl, ?_⟩
        exact ⟨rfl, rfl⟩
      have wd : IntKind.i64.wrap (d - 1) = d - 1 := wi _ (by omega) (by omega)
      have r0 : (0 : Int) ≤ d - 1 := by omega
      have r1 : d - 1 < (r.l.es.length : Int) := by omega
      have r2 : (d - 1).toNat < r.l.es.length := by omega
      have he := List.getElem?_eq_getElem r2
      generalize r.l.es[(d - 1).toNat] = f at he
      have dt : decide (x.tote = t) = true := decide_eq_true hxt
      simp only [if_pos hxt, he]
      have hv2 : (Rm.mk r.l (r.sp.map (mvS t f.b)) (wout r.td i) r.dn r.ls).v = .agg [.fz 3 (r.l.ns.map cN), .fz 2 (r.l.es.map cD), .fz 2 ((r.sp.map (mvS t f.b)).map cSp), .fz 3 ((wout r.td i).map cTd), .fz 1 (r.dn.map cI), .fz 3 (r.ls.map cTd)] := rfl
      rw [hv2]
      (with_reducible((first|apply WO2_finw|apply WO2_fina);(conv=>lhs;simp only[go_sem, ibin, ishift])<;>rfl))
      (repeat' with_reducible first |apply qA|apply qB|apply qC|apply qD|apply qE|apply qF|(apply qG;decide)|apply qH|apply qI|apply qJ|apply qK|((first|apply qL|apply qM|apply qN|apply qO|((first|apply qP|apply qQ);decide +kernel));(conv=>lhs;simp only[go_sem, ibin, ishift, hlt, i0, i1, hi, hgi, cTd, dt])<;>rfl)|((first|apply qR|apply qS);(conv=>lhs;simp only[go_sem])<;>rfl;rfl)|((first|apply qT|apply qU);(conv=>lhs;simp only[go_sem])<;>rfl;rfl)|apply qV|apply qW|apply qX|apply qY|apply qZ)
      (with_reducible((first|apply pA|apply pB|apply pC|apply pD|apply pE|((first|apply pF|apply pG);decide +kernel));(conv=>lhs;simp only[go_sem, ibin, ishift])<;>rfl))
      refine CK_pure (rwithout_spec c r.td hz.td i hi) rfl ?_
      rintro v h' ⟨rfl, rfl⟩
      have hsp := hz.sp
      have hroom : (0 + r.sp.length) * 16 ≤ room := by simp only [room]; omega
      have hroom2 : r.sp.length * 16 ≤ room := by simp only [room]; omega
      (with_reducible((first|apply WO2_finw|apply WO2_fina);(conv=>lhs;simp only[go_sem, ibin, ishift])<;>rfl))
      (repeat' with_reducible first |apply qA|apply qB|apply qC|apply qD|apply qE|apply qF|(apply qG;decide)|apply qH|apply qI|apply qJ|apply qK|((first|apply qL|apply qM|apply qN|apply qO|((first|apply qP|apply qQ);decide +kernel));(conv=>lhs;simp only[go_sem, ibin, ishift, hroom, hroom2, Nat.le_refl])<;>rfl)|((first|apply qR|apply qS);(conv=>lhs;simp only[go_sem])<;>rfl;rfl)|((first|apply qT|apply qU);(conv=>lhs;simp only[go_sem])<;>rfl;rfl)|apply qV|apply qW|apply qX|apply qY|apply qZ)
      refine W2.wview [0, 1, 3] (by decide) rfl (by (conv => lhs; simp only [go_sem, ibin, ishift]) <;> with_reducible rfl) (by (conv => lhs; simp only [go_sem, ibin, ishift]) <;> with_reducible rfl) ?_
      refine W2_loopu (fun m u g => ∃ (j : Nat) (E : List Sp), j + m = r.sp.length ∧ E.length = r.sp.length ∧ (∀ k, E[k]? = if k < j then (r.sp[k]?).map (mvS t f.b) else r.sp[k]?) ∧ u = [(43, .i .i64 j)] ∧ g = [(2, .arr 2 (E.map cSp))]) r.sp.length ⟨0, r.sp, by omega, rfl, fun k => by rw [if_neg (by omega)], rfl, rfl⟩ rfl rfl ?_
      rintro m u g ⟨j, E, hj, hEl, hE, rfl, rfl⟩
      intro e1 h1 he1 hh1; simp only [egd, supE, hgd, supH, Nat.reduceEqDiff, Nat.reduceAdd, if_true, if_false, reduceIte] at he1 hh1; subst he1; subst hh1
      by_cases hjl : j < r.sp.length
      · have g0 := hE j
        rw [if_neg (by omega)] at g0
        have gs := List.getElem?_eq_getElem hjl
        generalize r.sp[j] = s at gs
        have hg : E[j]? = some s := g0.trans gs
        have hjE : j < E.length := by omega
        have j0 : (0 : Int) ≤ (j : Int) := by omega
        have j1 : (j : Int) < (r.sp.length : Int) := by omega
        have zj : decide (j < r.sp.length) = true := decide_eq_true hjl
        have wj := wS (show j < 9223372036854775807 by omega)
        have key : ∀ E2 : List Sp, E2 = E.set j (mvS t f.b s) → ∀ k, E2[k]? = if k < j + 1 then (r.sp[k]?).map (mvS t f.b) else r.sp[k]? := fun E2 h2 k => by
          subst h2
          by_cases hk : j = k
          · subst hk
            rw [List.getElem?_set_self hjE, if_pos (by omega), gs]; rfl
          · rw [List.getElem?_set_ne hk, hE k]
            by_cases hk2 : k < j
            · rw [if_pos hk2, if_pos (by omega)]
            · rw [if_neg hk2, if_neg (by omega)]
        by_cases hst : s.tote = t
        · have ds : decide (s.tote = t) = true := decide_eq_true hst
          (repeat' with_reducible first |apply qA|apply qB|apply qC|apply qD|apply qE|apply qF|(apply qG;decide)|apply qH|apply qI|apply qJ|apply qK|((first|apply qL|apply qM|apply qN|apply qO|((first|apply qP|apply qQ);decide +kernel));(conv=>lhs;simp only[go_sem, ibin, ishift, zj, j0, j1, hg, hjE, hjl, cSp, ds, wd, r0, r1, r2, he, cD, wj, hEl])<;>rfl)|((first|apply qR|apply qS);(conv=>lhs;simp only[go_sem])<;>rfl;rfl)|((first|apply qT|apply qU);(conv=>lhs;simp only[go_sem])<;>rfl;rfl)|apply qV|apply qW|apply qX|apply qY|apply qZ)
          rw [show (E.map cSp).set j [.i .i64 s.tote, .i .i64 f.b] = (E.set j (mvS t f.b s)).map cSp by rw [List.map_set, mvS, if_pos hst]; rfl]
          refine ⟨[0, 1, 2], by decide, rfl, ?_⟩
          exact ⟨r.sp.length - (j + 1), _, _, by omega, ⟨j + 1, _, by omega, by rw [List.length_set]; exact hEl, key _ rfl, rfl, rfl⟩, rfl, (by first | rfl | ((conv => lhs; simp only [go_sem, ibin, ishift]) <;> rfl))⟩
        · have ds : decide (s.tote = t) = false := decide_eq_false hst
          have hsame : E = E.set j (mvS t f.b s) := by
            apply List.ext_getElem?
            intro k
            by_cases hk : j = k
            · subst hk; rw [List.getElem?_set_self hjE, hg, mvS, if_neg hst]
            · rw [List.getElem?_set_ne hk]
          (repeat' with_reducible first |apply qA|apply qB|apply qC|apply qD|apply qE|apply qF|(apply qG;decide)|apply qH|apply qI|apply qJ|apply qK|((first|apply qL|apply qM|apply qN|apply qO|((first|apply qP|apply qQ);decide +kernel));(conv=>lhs;simp only[go_sem, ibin, ishift, zj, j0, j1, hg, hjE, hjl, cSp, ds, wj, hEl])<;>rfl)|((first|apply qR|apply qS);(conv=>lhs;simp only[go_sem])<;>rfl;rfl)|((first|apply qT|apply qU);(conv=>lhs;simp only[go_sem])<;>rfl;rfl)|apply qV|apply qW|apply qX|apply qY|apply qZ)
          refine ⟨[0, 1, 2], by decide, rfl, ?_⟩
          exact ⟨r.sp.length - (j + 1), _, _, by omega, ⟨j + 1, E, by omega, hEl, key E hsame, rfl, rfl⟩, rfl, (by first | rfl | ((conv => lhs; simp only [go_sem, ibin, ishift]) <;> rfl))⟩
      have hje : j = r.sp.length := by omega
      subst hje
      have hEE : E = r.sp.map (mvS t f.b) := by
        apply List.ext_getElem?
        intro k
        rw [hE k, List.getElem?_map]
        by_cases hk : k < r.sp.length
        · rw [if_pos hk]
        · rw [if_neg hk, List.getElem?_eq_none (by omega)]; rfl
      rw [hEE]
      have hml : (r.sp.map (mvS t f.b)).length = r.sp.length := by simp
      generalize r.sp.map (mvS t f.b) = E3 at hml
      rw [← hml]
      refine W2.wfrz 2 rfl (by (conv => lhs; simp only [go_sem, ibin, ishift]) <;> with_reducible rfl) (by (conv => lhs; simp only [go_sem, ibin, ishift]) <;> with_reducible rfl) ?_
      (repeat' with_reducible first |apply qA|apply qB|apply qC|apply qD|apply qE|apply qF|(apply qG;decide)|apply qH|apply qI|apply qJ|apply qK|((first|apply qL|apply qM|apply qN|apply qO|((first|apply qP|apply qQ);decide +kernel));(conv=>lhs;simp only[go_sem, ibin, ishift])<;>rfl)|((first|apply qR|apply qS);(conv=>lhs;simp only[go_sem])<;>rfl;rfl)|((first|apply qT|apply qU);(conv=>lhs;simp only[go_sem])<;>rfl;rfl)|apply qV|apply qW|apply qX|apply qY|apply qZ)
      refine ⟨by first | exact .inr rfl | exact .inl rfl, _, _, (by (conv => lhs; simp only [go_sem, ibin, ishift]) <;> with_reducible rfl), (by (conv => lhs; simp only [go_sem, ibin, ishift]) <;> with_reducible rfl), ?_⟩
      refine ⟨[], by decide, rfl, ?_⟩
      exact ⟨rfl, rfl⟩
def mskB (r : Rm) (d : Int) (b : Bool) (j : Nat) : Bool := decide (j ≠ 0) && ((decide ((j : Int) = d) && b) || (decide ((j : Int) ≠ d) && r.isDown j))
def Rm.mask (r : Rm) (d : Int) (b : Bool) : Rm × Int :=
  if r.out 1 0 d = true then (r, 1) else (⟨r.l, r.sp, r.td, dnB ((List.range (r.l.es.length + 1)).map (mskB r d b)) 0, r.ls⟩, 0)
theorem dnB_app : ∀ (l : List Bool) (k : Nat) (b : Bool), dnB (l ++ [b]) k = dnB l k ++ (if b = true then [((k + l.length : Nat) : Int)] else [])
  | [], k, b => by cases b <;> simp [dnB]
  | x :: l, k, b => by
    rw [List.cons_append, dnB, dnB, dnB_app l (k + 1) b]
    have : k + 1 + l.length = k + (x :: l).length := by simp; omega
    rw [this]
    cases x <;> simp
theorem dnB_len : ∀ (l : List Bool) (k : Nat), (dnB l k).length ≤ l.length
  | [], k => by simp [dnB]
  | x :: l, k => by
    have := dnB_len l (k + 1)
    rw [dnB]
    cases x <;> simp <;> omega
theorem rmask_spec (c : TabR17 T) (r : Rm) (hz : r.Sz) (d : Int) (b : Bool) : Ret2 T 0 i_stillageref17_Mask [r.v, .i .i64 d, .b b] [] (fun v h' => v = .tup [(r.mask d b).1.v, .i .i64 (r.mask d b).2] ∧ h' = []) := by
  refine Ret2_fnv c.mask rfl rfl ?_
  have hv : r.v = .agg [.fz 3 (r.l.ns.map cN), .fz 2 (r.l.es.map cD), .fz 2 (r.sp.map cSp), .fz 3 (r.td.map cTd), .fz 1 (r.dn.map cI), .fz 3 (r.ls.map cTd)] := rfl
  rw [hv]
  unfold Rm.mask
  (repeat' with_reducible first |apply qA|apply qB|apply qC|apply qD|apply qE|apply qF|(apply qG;decide)|apply qH|apply qI|apply qJ|apply qK|((first|apply qL|apply qM|apply qN|apply qO|((first|apply qP|apply qQ);decide +kernel));(conv=>lhs;simp only[go_sem, ibin, ishift])<;>rfl)|((first|apply qR|apply qS);(conv=>lhs;simp only[go_sem])<;>rfl;rfl)|((first|apply qT|apply qU);(conv=>lhs;simp only[go_sem])<;>rfl;rfl)|apply qV|apply qW|apply qX|apply qY|apply qZ)
  (with_reducible((first|apply pA|apply pB|apply pC|apply pD|apply pE|((first|apply pF|apply pG);decide +kernel));(conv=>lhs;simp only[go_sem, ibin, ishift])<;>rfl))
  refine CK_pure (rout_spec c r 1 0 d) (by first | rfl | (simp only [go_sem, Rm.v]; done) | (simp only [go_sem, Rm.v] <;> rfl)) ?_
  rintro v h' ⟨rfl, rfl⟩
  cases ho : r.out 1 0 d with
  | true =>
    rw [if_pos rfl, hv]
    (with_reducible((first|apply WO2_finw|apply WO2_fina);(conv=>lhs;simp only[go_sem, ibin, ishift])<;>rfl))
    (repeat' with_reducible first |apply qA|apply qB|apply qC|apply qD|apply qE|apply qF|(apply qG;decide)|apply qH|apply qI|apply qJ|apply qK|((first|apply qL|apply qM|apply qN|apply qO|((first|apply qP|apply qQ);decide +kernel));(conv=>lhs;simp only[go_sem, ibin, ishift])<;>rfl)|((first|apply qR|apply qS);(conv=>lhs;simp only[go_sem])<;>rfl;rfl)|((first|apply qT|apply qU);(conv=>lhs;simp only[go_sem])<;>rfl;rfl)|apply qV|apply qW|apply qX|apply qY|apply qZ)
    refine ⟨by first | exact .inr rfl | exact .inl rfl, _, _, (by (conv => lhs; simp only [go_sem, ibin, ishift]) <;> with_reducible rfl), (by (conv => lhs; simp only [go_sem, ibin, ishift]) <;> with_reducible rfl), ?_⟩
    refine ⟨[], by decide, rfl, ?_⟩
    exact ⟨rfl, rfl⟩
  | false =>
    rw [if_neg (by decide)]
    have hel := hz.es
    (with_reducible((first|apply WO2_finw|apply WO2_fina);(conv=>lhs;simp only[go_sem, ibin, ishift])<;>rfl))
    ((repeat' with_reducible first |apply qA|apply qB|apply qC|apply qD|apply qE|apply qF|(apply qG;decide)|apply qH|apply qI|apply qJ|apply qK|apply qX|((first|apply qR|apply qS);(conv=>lhs;simp only[go_sem])<;>rfl;rfl)|((first|apply qT|apply qU);(conv=>lhs;simp only[go_sem])<;>rfl;rfl)|apply qZ|apply qY|apply qW);with_reducible((first|apply qL|apply qM|apply qN|apply qO|((first|apply qP|apply qQ);decide +kernel));(conv=>lhs;simp only[go_sem, ibin, ishift])<;>rfl))
    ((repeat' with_reducible first |apply qA|apply qB|apply qC|apply qD|apply qE|apply qF|(apply qG;decide)|apply qH|apply qI|apply qJ|apply qK|apply qX|((first|apply qR|apply qS);(conv=>lhs;simp only[go_sem])<;>rfl;rfl)|((first|apply qT|apply qU);(conv=>lhs;simp only[go_sem])<;>rfl;rfl)|apply qZ|apply qY|apply qW);with_reducible((first|apply qL|apply qM|apply qN|apply qO|((first|apply qP|apply qQ);decide +kernel));(conv=>lhs;simp only[go_sem, ibin, ishift])<;>rfl))
    have hv2 : (Rm.mk r.l r.sp r.td (dnB ((List.range (r.l.es.length + 1)).map (mskB r d b)) 0) r.ls).v = .agg [.fz 3 (r.l.ns.map cN), .fz 2 (r.l.es.map cD), .fz 2 (r.sp.map cSp), .fz 3 (r.td.map cTd), .fz 1 ((dnB ((List.range (r.l.es.length + 1)).map (mskB r d b)) 0).map cI), .fz 3 (r.ls.map cTd)] := rfl
    rw [hv2]
    have hBg : ∀ j, j < r.l.es.length + 1 → ((List.range (r.l.es.length + 1)).map (mskB r d b))[j]? = some (mskB r d b j) := fun j hj => by
      rw [List.getElem?_map, List.getElem?_range hj]; rfl
    have hBl : ((List.range (r.l.es.length + 1)).map (mskB r d b)).length = r.l.es.length + 1 := by simp
    generalize (List.range (r.l.es.length + 1)).map (mskB r d b) = B at hBg hBl
    have hB0 : [] = dnB (B.take (0 + 1)) 0 := by
      rw [List.take_add_one, hBg 0 (by omega)]; rfl
    refine W2.wnil 8 1 rfl (by (conv => lhs; simp only [go_sem, ibin, ishift]) <;> with_reducible rfl) (by (conv => lhs; simp only [go_sem, ibin, ishift]) <;> with_reducible rfl) ?_
    (repeat' with_reducible first |apply qA|apply qB|apply qC|apply qD|apply qE|apply qF|(apply qG;decide)|apply qH|apply qI|apply qJ|apply qK|((first|apply qL|apply qM|apply qN|apply qO|((first|apply qP|apply qQ);decide +kernel));(conv=>lhs;simp only[go_sem, ibin, ishift])<;>rfl)|((first|apply qR|apply qS);(conv=>lhs;simp only[go_sem])<;>rfl;rfl)|((first|apply qT|apply qU);(conv=>lhs;simp only[go_sem])<;>rfl;rfl)|apply qV|apply qW|apply qX|apply qY|apply qZ)
    refine W2_loopu (fun m u g => ∃ (j n : Nat) (W : List Int), j + m = r.l.es.length ∧ W = dnB (B.take (j + 1)) 0 ∧ n = W.length ∧ u = [(8, .sl 1 2 0 n none), (9, .i .i64 ((j + 1 : Nat) : Int))] ∧ g = [(2, .arr 1 (W.map cI))]) r.l.es.length ⟨0, 0, [], by omega, hB0, rfl, rfl, rfl⟩ rfl rfl ?_
    rintro m u g ⟨j, n, W, hj, hW, hn, rfl, rfl⟩
    intro e1 h1 he1 hh1; simp only [egd, supE, hgd, supH, Nat.reduceEqDiff, Nat.reduceAdd, if_true, if_false, reduceIte] at he1 hh1; subst he1; subst hh1
    by_cases hjl : j < r.l.es.length
    · have zj : decide (((j + 1 : Nat) : Int) ≤ (r.l.es.length : Int)) = true := decide_eq_true (by omega)
      have wj := wS (show j + 1 < 9223372036854775807 by omega)
      have hnl : n ≤ j + 1 := by rw [hn, hW]; exact Nat.le_trans (dnB_len _ _) (by rw [List.length_take]; omega)
      have hroom : (n + 1) * 8 ≤ room := by simp only [room]; omega
      have hWn : W.take n = W := by rw [hn, List.take_length]
      have hBn := hBg (j + 1) (by omega)
      have hstep : dnB (B.take (j + 1 + 1)) 0 = W ++ (if mskB r d b (j + 1) = true then [((j + 1 : Nat) : Int)] else []) := by
        rw [List.take_add_one, hBn]
        simp only [Option.toList_some]
        rw [dnB_app, ← hW, List.length_take, Nat.min_eq_left (by omega), Nat.zero_add]
      have yes : mskB r d b (j + 1) = true → W ++ [((j + 1 : Nat) : Int)] = dnB (B.take (j + 1 + 1)) 0 := fun h => by rw [hstep, if_pos h]
      have no : mskB r d b (j + 1) = false → W = dnB (B.take (j + 1 + 1)) 0 := fun h => by rw [hstep, if_neg (by rw [h]; decide), List.append_nil]
      by_cases hjd : ((j + 1 : Nat) : Int) = d
      · have e1 : decide (((j + 1 : Nat) : Int) = d) = true := decide_eq_true hjd
        have hm : mskB r d b (j + 1) = b := by simp only [mskB, e1, hjd, ne_eq, not_true, decide_false, Bool.false_and, Bool.or_false, Bool.true_and]; simp
        cases b with
        | true =>
          (repeat' with_reducible first |apply qA|apply qB|apply qC|apply qD|apply qE|apply qF|(apply qG;decide)|apply qH|apply qI|apply qJ|apply qK|((first|apply qL|apply qM|apply qN|apply qO|((first|apply qP|apply qQ);decide +kernel));(conv=>lhs;simp only[go_sem, ibin, ishift, zj, wj, e1, hroom, Nat.le_refl, hWn, ← hn])<;>rfl)|((first|apply qR|apply qS);(conv=>lhs;simp only[go_sem])<;>rfl;rfl)|((first|apply qT|apply qU);(conv=>lhs;simp only[go_sem])<;>rfl;rfl)|apply qV|apply qW|apply qX|apply qY|apply qZ)
          refine ⟨[0, 1, 4], by decide, rfl, ?_⟩
          exact ⟨r.l.es.length - (j + 1), _, _, by omega, ⟨j + 1, n + 1, W ++ [((j + 1 : Nat) : Int)], by omega, yes hm, by rw [List.length_append, ← hn]; rfl, rfl, rfl⟩, rfl, (by rw [List.map_append]; first | rfl | ((conv => lhs; simp only [go_sem, ibin, ishift]) <;> rfl))⟩
        | false =>
          (repeat' with_reducible first |apply qA|apply qB|apply qC|apply qD|apply qE|apply qF|(apply qG;decide)|apply qH|apply qI|apply qJ|apply qK|((first|apply qL|apply qM|apply qN|apply qO|((first|apply qP|apply qQ);decide +kernel));(conv=>lhs;simp only[go_sem, ibin, ishift, zj, wj, e1, hroom, Nat.le_refl, hWn, ← hn])<;>rfl)|((first|apply qR|apply qS);(conv=>lhs;simp only[go_sem])<;>rfl;rfl)|((first|apply qT|apply qU);(conv=>lhs;simp only[go_sem])<;>rfl;rfl)|apply qV|apply qW|apply qX|apply qY|apply qZ)
          refine ⟨[0, 1, 2], by decide, rfl, ?_⟩
          exact ⟨r.l.es.length - (j + 1), _, _, by omega, ⟨j + 1, n, W, by omega, no hm, hn, rfl, rfl⟩, rfl, (by first | rfl | ((conv => lhs; simp only [go_sem, ibin, ishift]) <;> rfl))⟩
      · have e1 : decide (((j + 1 : Nat) : Int) = d) = false := decide_eq_false hjd
        have hm : mskB r d b (j + 1) = r.isDown ((j + 1 : Nat) : Int) := by simp only [mskB, e1, ne_eq, hjd, not_false_eq_true, decide_true, Bool.false_and, Bool.false_or, Bool.true_and]; simp
        (repeat' with_reducible first |apply qA|apply qB|apply qC|apply qD|apply qE|apply qF|(apply qG;decide)|apply qH|apply qI|apply qJ|apply qK|((first|apply qL|apply qM|apply qN|apply qO|((first|apply qP|apply qQ);decide +kernel));(conv=>lhs;simp only[go_sem, ibin, ishift, zj, wj, e1])<;>rfl)|((first|apply qR|apply qS);(conv=>lhs;simp only[go_sem])<;>rfl;rfl)|((first|apply qT|apply qU);(conv=>lhs;simp only[go_sem])<;>rfl;rfl)|apply qV|apply qW|apply qX|apply qY|apply qZ)
        (with_reducible((first|apply pA|apply pB|apply pC|apply pD|apply pE|((first|apply pF|apply pG);decide +kernel));(conv=>lhs;simp only[go_sem, ibin, ishift, zj, wj, e1])<;>rfl))
        refine CK_pure (risDown_spec c r hz ((j + 1 : Nat) : Int)) (by first | rfl | (simp only [go_sem, Rm.v]; done) | (simp only [go_sem, Rm.v] <;> rfl)) ?_
        rintro v h' ⟨rfl, rfl⟩
        cases hdw : r.isDown ((j + 1 : Nat) : Int) with
        | true =>
          rw [hdw] at hm
          (with_reducible((first|apply WO2_finw|apply WO2_fina);(conv=>lhs;simp only[go_sem, ibin, ishift])<;>rfl))
          (repeat' with_reducible first |apply qA|apply qB|apply qC|apply qD|apply qE|apply qF|(apply qG;decide)|apply qH|apply qI|apply qJ|apply qK|((first|apply qL|apply qM|apply qN|apply qO|((first|apply qP|apply qQ);decide +kernel));(conv=>lhs;simp only[go_sem, ibin, ishift, zj, wj, e1, hroom, Nat.le_refl, hWn, ← hn])<;>rfl)|((first|apply qR|apply qS);(conv=>lhs;simp only[go_sem])<;>rfl;rfl)|((first|apply qT|apply qU);(conv=>lhs;simp only[go_sem])<;>rfl;rfl)|apply qV|apply qW|apply qX|apply qY|apply qZ)
          refine ⟨[0, 1, 4], by decide, rfl, ?_⟩
          exact ⟨r.l.es.length - (j + 1), _, _, by omega, ⟨j + 1, n + 1, W ++ [((j + 1 : Nat) : Int)], by omega, yes hm, by rw [List.length_append, ← hn]; rfl, rfl, rfl⟩, rfl, (by rw [List.map_append]; first | rfl | ((conv => lhs; simp only [go_sem, ibin, ishift]) <;> rfl))⟩
        | false =>
          rw [hdw] at hm
          (with_reducible((first|apply WO2_finw|apply WO2_fina);(conv=>lhs;simp only[go_sem, ibin, ishift])<;>rfl))
          (repeat' with_reducible first |apply qA|apply qB|apply qC|apply qD|apply qE|apply qF|(apply qG;decide)|apply qH|apply qI|apply qJ|apply qK|((first|apply qL|apply qM|apply qN|apply qO|((first|apply qP|apply qQ);decide +kernel));(conv=>lhs;simp only[go_sem, ibin, ishift, zj, wj, e1, hroom, Nat.le_refl, hWn, ← hn])<;>rfl)|((first|apply qR|apply qS);(conv=>lhs;simp only[go_sem])<;>rfl;rfl)|((first|apply qT|apply qU);(conv=>lhs;simp only[go_sem])<;>rfl;rfl)|apply qV|apply qW|apply qX|apply qY|apply qZ)
          refine ⟨[0, 1, 2], by decide, rfl, ?_⟩
          exact ⟨r.l.es.length - (j + 1), _, _, by omega, ⟨j + 1, n, W, by omega, no hm, hn, rfl, rfl⟩, rfl, (by first | rfl | ((conv => lhs; simp only [go_sem, ibin, ishift]) <;> rfl))⟩
    have hje : j = r.l.es.length := by omega
    subst hje
    rw [List.take_of_length_le (by omega)] at hW
    rw [← hW]
    subst hn
    have zj : decide (((r.l.es.length + 1 : Nat) : Int) ≤ (r.l.es.length : Int)) = false := decide_eq_false (by omega)
    refine W2.wfrz 2 rfl (by (conv => lhs; simp only [go_sem, ibin, ishift]) <;> with_reducible rfl) (by (conv => lhs; simp only [go_sem, ibin, ishift]) <;> with_reducible rfl) ?_
    (repeat' with_reducible first |apply qA|apply qB|apply qC|apply qD|apply qE|apply qF|(apply qG;decide)|apply qH|apply qI|apply qJ|apply qK|((first|apply qL|apply qM|apply qN|apply qO|((first|apply qP|apply qQ);decide +kernel));(conv=>lhs;simp only[go_sem, ibin, ishift, zj])<;>rfl)|((first|apply qR|apply qS);(conv=>lhs;simp only[go_sem])<;>rfl;rfl)|((first|apply qT|apply qU);(conv=>lhs;simp only[go_sem])<;>rfl;rfl)|apply qV|apply qW|apply qX|apply qY|apply qZ)
    refine ⟨by first | exact .inr rfl | exact .inl rfl, _, _, (by (conv => lhs; simp only [go_sem, ibin, ishift]) <;> with_reducible rfl), (by (conv => lhs; simp only [go_sem, ibin, ishift]) <;> with_reducible rfl), ?_⟩
    refine ⟨[], by decide, rfl, ?_⟩
    exact ⟨rfl, rfl⟩
end Go.Proofs.Ytjijhkmimjolhaa.Ab
