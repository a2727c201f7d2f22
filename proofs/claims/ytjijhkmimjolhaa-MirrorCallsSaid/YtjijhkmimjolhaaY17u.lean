/- Chapter 17: MirrorCalls. -/
import Derived.Test.YtjijhkmimjolhaaY17t
namespace Go.Proofs.Ytjijhkmimjolhaa.Ab
open Go
set_option linter.unusedVariables false
set_option linter.unusedSimpArgs false
variable {T : AT}
set_option maxHeartbeats 4000000 in
theorem mirrorCalls_law (c : TabV T) (hT : T i_stillagelaw17_MirrorCalls = some (.fn c_stillagelaw17_MirrorCalls)) (l : Lay) (hs : ∀ x ∈ l.ns, x.name.length ≤ 9223372036854775807) (s : List Nt) :
    Ret2 T 0 i_stillagelaw17_MirrorCalls [l.v, .fz 4 (s.map cNt)] [] (fun v h' => v = .b true) := by
  refine Ret2_fnv hT rfl rfl ?_
  have hv : l.v = .agg [.fz 3 (l.ns.map cN), .fz 2 (l.es.map cD)] := rfl
  rw [hv]
  (repeat' with_reducible first |apply qA|apply qB|apply qC|apply qD|apply qE|apply qF|(apply qG;decide)|apply qH|apply qI|apply qJ|apply qK|((first|apply qL|apply qM|apply qN|apply qO|((first|apply qP|apply qQ);decide +kernel));(conv=>lhs;simp only[go_sem, ibin, ishift])<;>rfl)|((first|apply qR|apply qS);(conv=>lhs;simp only[go_sem])<;>rfl;rfl)|((first|apply qT|apply qU);(conv=>lhs;simp only[go_sem])<;>rfl;rfl)|apply qV|apply qW|apply qX|apply qY|apply qZ)
  (with_reducible((first|apply pA|apply pB|apply pC|apply pD|apply pE|((first|apply pF|apply pG);decide +kernel));(conv=>lhs;simp only[go_sem, ibin, ishift])<;>rfl))
  refine CK_pure (awake_spec c.w) rfl ?_
  rintro v h' ⟨rfl, rfl⟩
  (with_reducible((first|apply pA|apply pB|apply pC|apply pD|apply pE|((first|apply pF|apply pG);decide +kernel));(conv=>lhs;simp only[go_sem, ibin, ishift])<;>rfl))
  refine CK_pure (few_spec c.w l) (by first | rfl | (simp only [go_sem, Lay.v]; done) | (simp only [go_sem, Lay.v] <;> rfl)) ?_
  rintro v h' ⟨rfl, rfl⟩
  by_cases hf : l.ns.length ≤ 60 ∧ l.es.length ≤ 200
  rotate_left
  · rw [decide_eq_false hf]
    (with_reducible((first|apply WO2_finw|apply WO2_fina);(conv=>lhs;simp only[go_sem, ibin, ishift])<;>rfl))
    (repeat' with_reducible first |apply qA|apply qB|apply qC|apply qD|apply qE|apply qF|(apply qG;decide)|apply qH|apply qI|apply qJ|apply qK|((first|apply qL|apply qM|apply qN|apply qO|((first|apply qP|apply qQ);decide +kernel));(conv=>lhs;simp only[go_sem, ibin, ishift])<;>rfl)|((first|apply qR|apply qS);(conv=>lhs;simp only[go_sem])<;>rfl;rfl)|((first|apply qT|apply qU);(conv=>lhs;simp only[go_sem])<;>rfl;rfl)|apply qV|apply qW|apply qX|apply qY|apply qZ)
    (with_reducible((first|apply pA|apply pB|apply pC|apply pD|apply pE|((first|apply pF|apply pG);decide +kernel));(conv=>lhs;simp only[go_sem, ibin, ishift])<;>rfl))
    refine CK_pure (awake_spec c.w) rfl ?_
    rintro v h' ⟨rfl, rfl⟩
    (with_reducible((first|apply WO2_finw|apply WO2_fina);(conv=>lhs;simp only[go_sem, ibin, ishift])<;>rfl))
    (repeat' with_reducible first |apply qA|apply qB|apply qC|apply qD|apply qE|apply qF|(apply qG;decide)|apply qH|apply qI|apply qJ|apply qK|((first|apply qL|apply qM|apply qN|apply qO|((first|apply qP|apply qQ);decide +kernel));(conv=>lhs;simp only[go_sem, ibin, ishift])<;>rfl)|((first|apply qR|apply qS);(conv=>lhs;simp only[go_sem])<;>rfl;rfl)|((first|apply qT|apply qU);(conv=>lhs;simp only[go_sem])<;>rfl;rfl)|apply qV|apply qW|apply qX|apply qY|apply qZ)
    refine ⟨by first | exact .inr rfl | exact .inl rfl, _, _, (by (conv => lhs; simp only [go_sem, ibin, ishift]) <;> with_reducible rfl), (by (conv => lhs; simp only [go_sem, ibin, ishift]) <;> with_reducible rfl), ?_⟩
    refine ⟨[], by decide, rfl, ?_⟩
    rfl
  rw [decide_eq_true hf]
  (with_reducible((first|apply WO2_finw|apply WO2_fina);(conv=>lhs;simp only[go_sem, ibin, ishift])<;>rfl))
  (repeat' with_reducible first |apply qA|apply qB|apply qC|apply qD|apply qE|apply qF|(apply qG;decide)|apply qH|apply qI|apply qJ|apply qK|((first|apply qL|apply qM|apply qN|apply qO|((first|apply qP|apply qQ);decide +kernel));(conv=>lhs;simp only[go_sem, ibin, ishift])<;>rfl)|((first|apply qR|apply qS);(conv=>lhs;simp only[go_sem])<;>rfl;rfl)|((first|apply qT|apply qU);(conv=>lhs;simp only[go_sem])<;>rfl;rfl)|apply qV|apply qW|apply qX|apply qY|apply qZ)
  (with_reducible((first|apply pA|apply pB|apply pC|apply pD|apply pE|((first|apply pF|apply pG);decide +kernel));(conv=>lhs;simp only[go_sem, ibin, ishift])<;>rfl))
  refine CK_pure (new_spec c.w.toTabM l ⟨by omega, by omega⟩ hs) (by first | rfl | (simp only [go_sem, Lay.v]; done) | (simp only [go_sem, Lay.v] <;> rfl)) ?_
  rintro v h' ⟨hh0, hh1⟩
  cases hg : l.good with
  | false =>
    obtain ⟨rfl, rfl⟩ := hh0 hg
    (with_reducible((first|apply WO2_finw|apply WO2_fina);(conv=>lhs;simp only[go_sem, ibin, ishift])<;>rfl))
    (repeat' with_reducible first |apply qA|apply qB|apply qC|apply qD|apply qE|apply qF|(apply qG;decide)|apply qH|apply qI|apply qJ|apply qK|((first|apply qL|apply qM|apply qN|apply qO|((first|apply qP|apply qQ);decide +kernel));(conv=>lhs;simp only[go_sem, ibin, ishift])<;>rfl)|((first|apply qR|apply qS);(conv=>lhs;simp only[go_sem])<;>rfl;rfl)|((first|apply qT|apply qU);(conv=>lhs;simp only[go_sem])<;>rfl;rfl)|apply qV|apply qW|apply qX|apply qY|apply qZ)
    (with_reducible((first|apply pA|apply pB|apply pC|apply pD|apply pE|((first|apply pF|apply pG);decide +kernel));(conv=>lhs;simp only[go_sem, ibin, ishift])<;>rfl))
    refine CK_pure (rnew_spec c.r l ⟨by omega, by omega⟩ hs) (by first | rfl | (simp only [go_sem, Lay.v]; done) | (simp only [go_sem, Lay.v] <;> rfl)) ?_
    rintro v h' ⟨rh0, rh1⟩
    obtain ⟨rfl, rfl⟩ := rh0 hg
    (with_reducible((first|apply WO2_finw|apply WO2_fina);(conv=>lhs;simp only[go_sem, ibin, ishift])<;>rfl))
    (repeat' with_reducible first |apply qA|apply qB|apply qC|apply qD|apply qE|apply qF|(apply qG;decide)|apply qH|apply qI|apply qJ|apply qK|((first|apply qL|apply qM|apply qN|apply qO|((first|apply qP|apply qQ);decide +kernel));(conv=>lhs;simp only[go_sem, ibin, ishift])<;>rfl)|((first|apply qR|apply qS);(conv=>lhs;simp only[go_sem])<;>rfl;rfl)|((first|apply qT|apply qU);(conv=>lhs;simp only[go_sem])<;>rfl;rfl)|apply qV|apply qW|apply qX|apply qY|apply qZ)
    refine ⟨by first | exact .inr rfl | exact .inl rfl, _, _, (by (conv => lhs; simp only [go_sem, ibin, ishift]) <;> with_reducible rfl), (by (conv => lhs; simp only [go_sem, ibin, ishift]) <;> with_reducible rfl), ?_⟩
    refine ⟨[], by decide, rfl, ?_⟩
    rfl
  | true =>
    obtain ⟨rfl, rfl⟩ := hh1 hg
    have hS0 := Sim.new hg
    have hz := good_sz hg
    have hmk : (Mi.new l).es = l.es := rfl
    generalize Mi.new l = p0 at hS0
    unfold Mi.h
    (with_reducible((first|apply WO2_finw|apply WO2_fina);(conv=>lhs;simp only[go_sem, ibin, ishift])<;>rfl))
    (repeat' with_reducible first |apply qA|apply qB|apply qC|apply qD|apply qE|apply qF|(apply qG;decide)|apply qH|apply qI|apply qJ|apply qK|((first|apply qL|apply qM|apply qN|apply qO|((first|apply qP|apply qQ);decide +kernel));(conv=>lhs;simp only[go_sem, ibin, ishift])<;>rfl)|((first|apply qR|apply qS);(conv=>lhs;simp only[go_sem])<;>rfl;rfl)|((first|apply qT|apply qU);(conv=>lhs;simp only[go_sem])<;>rfl;rfl)|apply qV|apply qW|apply qX|apply qY|apply qZ)
    (with_reducible((first|apply pA|apply pB|apply pC|apply pD|apply pE|((first|apply pF|apply pG);decide +kernel));(conv=>lhs;simp only[go_sem, ibin, ishift])<;>rfl))
    refine CK_pure (rnew_spec c.r l ⟨by omega, by omega⟩ hs) (by first | rfl | (simp only [go_sem, Lay.v]; done) | (simp only [go_sem, Lay.v] <;> rfl)) ?_
    rintro v h' ⟨rh0, rh1⟩
    obtain ⟨rfl, rfl⟩ := rh1 hg
    generalize Rm.new l = r0 at hS0
    have hv0 : r0.v = .agg [.fz 3 (r0.l.ns.map cN), .fz 2 (r0.l.es.map cD), .fz 2 (r0.sp.map cSp), .fz 3 (r0.td.map cTd), .fz 1 (r0.dn.map cI), .fz 3 (r0.ls.map cTd)] := rfl
    rw [hv0]
    (with_reducible((first|apply WO2_finw|apply WO2_fina);(conv=>lhs;simp only[go_sem, ibin, ishift])<;>rfl))
    (repeat' with_reducible first |apply qA|apply qB|apply qC|apply qD|apply qE|apply qF|(apply qG;decide)|apply qH|apply qI|apply qJ|apply qK|((first|apply qL|apply qM|apply qN|apply qO|((first|apply qP|apply qQ);decide +kernel));(conv=>lhs;simp only[go_sem, ibin, ishift])<;>rfl)|((first|apply qR|apply qS);(conv=>lhs;simp only[go_sem])<;>rfl;rfl)|((first|apply qT|apply qU);(conv=>lhs;simp only[go_sem])<;>rfl;rfl)|apply qV|apply qW|apply qX|apply qY|apply qZ)
    refine W2_loopu (fun mm u g => ∃ (i : Nat) (m : Mi) (r : Rm), i + mm = 120 ∧ Sim l m r i ∧ u = [(9, .i .i64 i)] ∧ g = [(1, .obj (.fz 2 (m.es.map cD) :: ((m.w.map fun n => SV.p (PV.i .i64 n)) ++ [.sl 1 2 0 m.at_.length none, .sl 4 3 0 m.ds.length none]))), (2, .arr 1 (m.at_.map cI)), (3, .arr 4 (m.ds.map cMd)), (4, .obj [.fz 3 (r.l.ns.map cN), .fz 2 (r.l.es.map cD), .fz 2 (r.sp.map cSp), .fz 3 (r.td.map cTd), .fz 1 (r.dn.map cI), .fz 3 (r.ls.map cTd)])]) 120 ⟨0, p0, r0, by omega, hS0, rfl, rfl⟩ rfl rfl ?_
    rintro mm u g ⟨i, m, r, hi, hS, rfl, rfl⟩
    intro e1 h1 he1 hh1; simp only [egd, supE, hgd, supH, Nat.reduceEqDiff, Nat.reduceAdd, if_true, if_false, reduceIte] at he1 hh1; subst he1; subst hh1
    have hzr : r.Sz := hS.sz (by omega) ⟨by omega, by omega⟩
    have hm := hS.one.ok
    have hw := hm.wl
    by_cases hil : i < s.length ∧ i < 120
    rotate_left
    · have hdec : (decide (i < s.length) && decide ((i : Int) < 120)) = false := by
        by_cases h : i < s.length
        · rw [decide_eq_false (show ¬((i : Int) < 120) by omega)]; simp
        · rw [decide_eq_false h]; rfl
      ((repeat' with_reducible first |apply qA|apply qB|apply qC|apply qD|apply qE|apply qF|(apply qG;decide)|apply qH|apply qI|apply qJ|apply qK|apply qX|((first|apply qR|apply qS);(conv=>lhs;simp only[go_sem])<;>rfl;rfl)|((first|apply qT|apply qU);(conv=>lhs;simp only[go_sem])<;>rfl;rfl)|apply qZ|apply qY|apply qW);with_reducible((first|apply qL|apply qM|apply qN|apply qO|((first|apply qP|apply qQ);decide +kernel));(conv=>lhs;simp only[go_sem, ibin, ishift])<;>rfl))
      rw [hdec]
      (repeat' with_reducible first |apply qA|apply qB|apply qC|apply qD|apply qE|apply qF|(apply qG;decide)|apply qH|apply qI|apply qJ|apply qK|((first|apply qL|apply qM|apply qN|apply qO|((first|apply qP|apply qQ);decide +kernel));(conv=>lhs;simp only[go_sem, ibin, ishift])<;>rfl)|((first|apply qR|apply qS);(conv=>lhs;simp only[go_sem])<;>rfl;rfl)|((first|apply qT|apply qU);(conv=>lhs;simp only[go_sem])<;>rfl;rfl)|apply qV|apply qW|apply qX|apply qY|apply qZ)
      (with_reducible((first|apply pA|apply pB|apply pC|apply pD|apply pE|((first|apply pF|apply pG);decide +kernel));(conv=>lhs;simp only[go_sem, ibin, ishift])<;>rfl))
      refine CK_call [1, 2, 3] (tells_spec c.w.toTabM c.r l m r i hS (by omega) ⟨by omega, by omega⟩) (by decide) (by simp) (by first | rfl | (simp only [go_sem, Rm.v]; done) | (simp only [go_sem, Rm.v] <;> rfl)) rfl (by first | rfl | (simp only [go_sem, Mi.h]; done) | (simp only [go_sem, Mi.h] <;> rfl)) ?_
      rintro v h' ⟨rfl, rfl⟩
      (with_reducible((first|apply WO2_finw|apply WO2_fina);(conv=>lhs;simp only[go_sem, ibin, ishift])<;>rfl))
      (repeat' with_reducible first |apply qA|apply qB|apply qC|apply qD|apply qE|apply qF|(apply qG;decide)|apply qH|apply qI|apply qJ|apply qK|((first|apply qL|apply qM|apply qN|apply qO|((first|apply qP|apply qQ);decide +kernel));(conv=>lhs;simp only[go_sem, ibin, ishift])<;>rfl)|((first|apply qR|apply qS);(conv=>lhs;simp only[go_sem])<;>rfl;rfl)|((first|apply qT|apply qU);(conv=>lhs;simp only[go_sem])<;>rfl;rfl)|apply qV|apply qW|apply qX|apply qY|apply qZ)
      refine ⟨by first | exact .inr rfl | exact .inl rfl, _, _, (by (conv => lhs; simp only [go_sem, ibin, ishift]) <;> with_reducible rfl), (by (conv => lhs; simp only [go_sem, ibin, ishift]) <;> with_reducible rfl), ?_⟩
      refine ⟨[], by decide, rfl, ?_⟩
      rfl
    obtain ⟨hil, hi2⟩ := hil
    have hgx := List.getElem?_eq_getElem hil
    generalize s[i] = x at hgx
    have h0 : (0 : Int) ≤ (i : Int) := by omega
    have h1 : (i : Int) < (s.length : Int) := by omega
    have h2 : (i : Int) < 120 := by omega
    have d1 : decide ((i : Int) < (s.length : Int)) = true := decide_eq_true h1
    have d2 : decide ((i : Int) < 120) = true := decide_eq_true h2
    have wi1 := wS (show i < 9223372036854775807 by omega)
    by_cases k1 : x.k = 1
    · have z1 : decide (x.k = 1) = true := decide_eq_true k1
      have he : m.apply x = m.put x.a x.b := by simp [Mi.apply, *]
      (repeat' with_reducible first |apply qA|apply qB|apply qC|apply qD|apply qE|apply qF|(apply qG;decide)|apply qH|apply qI|apply qJ|apply qK|((first|apply qL|apply qM|apply qN|apply qO|((first|apply qP|apply qQ);decide +kernel));(conv=>lhs;simp only[go_sem, ibin, ishift, d1, d2, h1, h2, h0, hil, hgx, cNt, z1])<;>rfl)|((first|apply qR|apply qS);(conv=>lhs;simp only[go_sem])<;>rfl;rfl)|((first|apply qT|apply qU);(conv=>lhs;simp only[go_sem])<;>rfl;rfl)|apply qV|apply qW|apply qX|apply qY|apply qZ)
      (with_reducible((first|apply pA|apply pB|apply pC|apply pD|apply pE|((first|apply pF|apply pG);decide +kernel));(conv=>lhs;simp only[go_sem, ibin, ishift])<;>rfl))
      refine CK_call [1, 2, 3] (put_spec c.w.toTabM m hm x.a x.b) (by decide) (by simp) rfl rfl (by first | rfl | (simp only [go_sem, Mi.h]; done) | (simp only [go_sem, Mi.h] <;> rfl)) ?_
      rintro v h' ⟨rfl, rfl⟩
      rw [← he]
      have hq := hS.apply x
      generalize m.apply x = q at hq ⊢
      obtain ⟨m2, e⟩ := q
      simp only at hq
      unfold Mi.h
      (with_reducible((first|apply WO2_finw|apply WO2_fina);(conv=>lhs;simp only[go_sem, ibin, ishift])<;>rfl))
      (repeat' with_reducible first |apply qA|apply qB|apply qC|apply qD|apply qE|apply qF|(apply qG;decide)|apply qH|apply qI|apply qJ|apply qK|((first|apply qL|apply qM|apply qN|apply qO|((first|apply qP|apply qQ);decide +kernel));(conv=>lhs;simp only[go_sem, ibin, ishift])<;>rfl)|((first|apply qR|apply qS);(conv=>lhs;simp only[go_sem])<;>rfl;rfl)|((first|apply qT|apply qU);(conv=>lhs;simp only[go_sem])<;>rfl;rfl)|apply qV|apply qW|apply qX|apply qY|apply qZ)
      (with_reducible((first|apply pA|apply pB|apply pC|apply pD|apply pE|((first|apply pF|apply pG);decide +kernel));(conv=>lhs;simp only[go_sem, ibin, ishift])<;>rfl))
      refine CK_pure (rapply_spec c.r r hzr x) (by first | rfl | (simp only [go_sem, Rm.v, Nt.v]; done) | (simp only [go_sem, Rm.v, Nt.v] <;> rfl)) ?_
      rintro v h' ⟨rfl, rfl⟩
      generalize r.apply x = q2 at hq
      obtain ⟨r2, e2⟩ := q2
      simp only at hq ⊢
      obtain ⟨rfl, hS2⟩ := hq
      have hv2 : r2.v = .agg [.fz 3 (r2.l.ns.map cN), .fz 2 (r2.l.es.map cD), .fz 2 (r2.sp.map cSp), .fz 3 (r2.td.map cTd), .fz 1 (r2.dn.map cI), .fz 3 (r2.ls.map cTd)] := rfl
      rw [hv2]
      have ze : decide (e = e) = true := by simp
      (with_reducible((first|apply WO2_finw|apply WO2_fina);(conv=>lhs;simp only[go_sem, ibin, ishift])<;>rfl))
      (repeat' with_reducible first |apply qA|apply qB|apply qC|apply qD|apply qE|apply qF|(apply qG;decide)|apply qH|apply qI|apply qJ|apply qK|((first|apply qL|apply qM|apply qN|apply qO|((first|apply qP|apply qQ);decide +kernel));(conv=>lhs;simp only[go_sem, ibin, ishift, ze, wi1])<;>rfl)|((first|apply qR|apply qS);(conv=>lhs;simp only[go_sem])<;>rfl;rfl)|((first|apply qT|apply qU);(conv=>lhs;simp only[go_sem])<;>rfl;rfl)|apply qV|apply qW|apply qX|apply qY|apply qZ)
      refine ⟨[0, 1, 2, 3, 4], by decide, rfl, ?_⟩
      exact ⟨120 - (i + 1), _, _, by omega, ⟨i + 1, m2, r2, by omega, hS2, rfl, rfl⟩, rfl, (by first | rfl | ((conv => lhs; simp only [go_sem, ibin, ishift]) <;> rfl))⟩
    have z1 : decide (x.k = 1) = false := decide_eq_false k1
    by_cases k4 : x.k = 4
    · have z4 : decide (x.k = 4) = true := decide_eq_true k4
      have he : m.apply x = m.send x.a x.b x.c := by simp [Mi.apply, *]
      (repeat' with_reducible first |apply qA|apply qB|apply qC|apply qD|apply qE|apply qF|(apply qG;decide)|apply qH|apply qI|apply qJ|apply qK|((first|apply qL|apply qM|apply qN|apply qO|((first|apply qP|apply qQ);decide +kernel));(conv=>lhs;simp only[go_sem, ibin, ishift, d1, d2, h1, h2, h0, hil, hgx, cNt, z1, z4])<;>rfl)|((first|apply qR|apply qS);(conv=>lhs;simp only[go_sem])<;>rfl;rfl)|((first|apply qT|apply qU);(conv=>lhs;simp only[go_sem])<;>rfl;rfl)|apply qV|apply qW|apply qX|apply qY|apply qZ)
      (with_reducible((first|apply pA|apply pB|apply pC|apply pD|apply pE|((first|apply pF|apply pG);decide +kernel));(conv=>lhs;simp only[go_sem, ibin, ishift])<;>rfl))
      refine CK_call [1, 2, 3] (send_spec c.w.toTabM m hm x.a x.b x.c) (by decide) (by simp) rfl rfl (by first | rfl | (simp only [go_sem, Mi.h]; done) | (simp only [go_sem, Mi.h] <;> rfl)) ?_
      rintro v h' ⟨rfl, rfl⟩
      rw [← he]
      have hq := hS.apply x
      generalize m.apply x = q at hq ⊢
      obtain ⟨m2, e⟩ := q
      simp only at hq
      unfold Mi.h
      (with_reducible((first|apply WO2_finw|apply WO2_fina);(conv=>lhs;simp only[go_sem, ibin, ishift])<;>rfl))
      (repeat' with_reducible first |apply qA|apply qB|apply qC|apply qD|apply qE|apply qF|(apply qG;decide)|apply qH|apply qI|apply qJ|apply qK|((first|apply qL|apply qM|apply qN|apply qO|((first|apply qP|apply qQ);decide +kernel));(conv=>lhs;simp only[go_sem, ibin, ishift])<;>rfl)|((first|apply qR|apply qS);(conv=>lhs;simp only[go_sem])<;>rfl;rfl)|((first|apply qT|apply qU);(conv=>lhs;simp only[go_sem])<;>rfl;rfl)|apply qV|apply qW|apply qX|apply qY|apply qZ)
      (with_reducible((first|apply pA|apply pB|apply pC|apply pD|apply pE|((first|apply pF|apply pG);decide +kernel));(conv=>lhs;simp only[go_sem, ibin, ishift])<;>rfl))
      refine CK_pure (rapply_spec c.r r hzr x) (by first | rfl | (simp only [go_sem, Rm.v, Nt.v]; done) | (simp only [go_sem, Rm.v, Nt.v] <;> rfl)) ?_
      rintro v h' ⟨rfl, rfl⟩
      generalize r.apply x = q2 at hq
      obtain ⟨r2, e2⟩ := q2
      simp only at hq ⊢
      obtain ⟨rfl, hS2⟩ := hq
      have hv2 : r2.v = .agg [.fz 3 (r2.l.ns.map cN), .fz 2 (r2.l.es.map cD), .fz 2 (r2.sp.map cSp), .fz 3 (r2.td.map cTd), .fz 1 (r2.dn.map cI), .fz 3 (r2.ls.map cTd)] := rfl
      rw [hv2]
      have ze : decide (e = e) = true := by simp
      (with_reducible((first|apply WO2_finw|apply WO2_fina);(conv=>lhs;simp only[go_sem, ibin, ishift])<;>rfl))
      (repeat' with_reducible first |apply qA|apply qB|apply qC|apply qD|apply qE|apply qF|(apply qG;decide)|apply qH|apply qI|apply qJ|apply qK|((first|apply qL|apply qM|apply qN|apply qO|((first|apply qP|apply qQ);decide +kernel));(conv=>lhs;simp only[go_sem, ibin, ishift, ze, wi1])<;>rfl)|((first|apply qR|apply qS);(conv=>lhs;simp only[go_sem])<;>rfl;rfl)|((first|apply qT|apply qU);(conv=>lhs;simp only[go_sem])<;>rfl;rfl)|apply qV|apply qW|apply qX|apply qY|apply qZ)
      refine ⟨[0, 1, 2, 3, 4], by decide, rfl, ?_⟩
      exact ⟨120 - (i + 1), _, _, by omega, ⟨i + 1, m2, r2, by omega, hS2, rfl, rfl⟩, rfl, (by first | rfl | ((conv => lhs; simp only [go_sem, ibin, ishift]) <;> rfl))⟩
    have z4 : decide (x.k = 4) = false := decide_eq_false k4
    by_cases k5 : x.k = 5
    · have z5 : decide (x.k = 5) = true := decide_eq_true k5
      have he : m.apply x = m.moved x.a x.b := by simp [Mi.apply, *]
      (repeat' with_reducible first |apply qA|apply qB|apply qC|apply qD|apply qE|apply qF|(apply qG;decide)|apply qH|apply qI|apply qJ|apply qK|((first|apply qL|apply qM|apply qN|apply qO|((first|apply qP|apply qQ);decide +kernel));(conv=>lhs;simp only[go_sem, ibin, ishift, d1, d2, h1, h2, h0, hil, hgx, cNt, z1, z4, z5])<;>rfl)|((first|apply qR|apply qS);(conv=>lhs;simp only[go_sem])<;>rfl;rfl)|((first|apply qT|apply qU);(conv=>lhs;simp only[go_sem])<;>rfl;rfl)|apply qV|apply qW|apply qX|apply qY|apply qZ)
      (with_reducible((first|apply pA|apply pB|apply pC|apply pD|apply pE|((first|apply pF|apply pG);decide +kernel));(conv=>lhs;simp only[go_sem, ibin, ishift])<;>rfl))
      refine CK_call [1, 2, 3] (moved_spec c.w.toTabM m hm x.a x.b) (by decide) (by simp) rfl rfl (by first | rfl | (simp only [go_sem, Mi.h]; done) | (simp only [go_sem, Mi.h] <;> rfl)) ?_
      rintro v h' ⟨rfl, rfl⟩
      rw [← he]
      have hq := hS.apply x
      generalize m.apply x = q at hq ⊢
      obtain ⟨m2, e⟩ := q
      simp only at hq
      unfold Mi.h
      (with_reducible((first|apply WO2_finw|apply WO2_fina);(conv=>lhs;simp only[go_sem, ibin, ishift])<;>rfl))
      (repeat' with_reducible first |apply qA|apply qB|apply qC|apply qD|apply qE|apply qF|(apply qG;decide)|apply qH|apply qI|apply qJ|apply qK|((first|apply qL|apply qM|apply qN|apply qO|((first|apply qP|apply qQ);decide +kernel));(conv=>lhs;simp only[go_sem, ibin, ishift])<;>rfl)|((first|apply qR|apply qS);(conv=>lhs;simp only[go_sem])<;>rfl;rfl)|((first|apply qT|apply qU);(conv=>lhs;simp only[go_sem])<;>rfl;rfl)|apply qV|apply qW|apply qX|apply qY|apply qZ)
      (with_reducible((first|apply pA|apply pB|apply pC|apply pD|apply pE|((first|apply pF|apply pG);decide +kernel));(conv=>lhs;simp only[go_sem, ibin, ishift])<;>rfl))
      refine CK_pure (rapply_spec c.r r hzr x) (by first | rfl | (simp only [go_sem, Rm.v, Nt.v]; done) | (simp only [go_sem, Rm.v, Nt.v] <;> rfl)) ?_
      rintro v h' ⟨rfl, rfl⟩
      generalize r.apply x = q2 at hq
      obtain ⟨r2, e2⟩ := q2
      simp only at hq ⊢
      obtain ⟨rfl, hS2⟩ := hq
      have hv2 : r2.v = .agg [.fz 3 (r2.l.ns.map cN), .fz 2 (r2.l.es.map cD), .fz 2 (r2.sp.map cSp), .fz 3 (r2.td.map cTd), .fz 1 (r2.dn.map cI), .fz 3 (r2.ls.map cTd)] := rfl
      rw [hv2]
      have ze : decide (e = e) = true := by simp
      (with_reducible((first|apply WO2_finw|apply WO2_fina);(conv=>lhs;simp only[go_sem, ibin, ishift])<;>rfl))
      (repeat' with_reducible first |apply qA|apply qB|apply qC|apply qD|apply qE|apply qF|(apply qG;decide)|apply qH|apply qI|apply qJ|apply qK|((first|apply qL|apply qM|apply qN|apply qO|((first|apply qP|apply qQ);decide +kernel));(conv=>lhs;simp only[go_sem, ibin, ishift, ze, wi1])<;>rfl)|((first|apply qR|apply qS);(conv=>lhs;simp only[go_sem])<;>rfl;rfl)|((first|apply qT|apply qU);(conv=>lhs;simp only[go_sem])<;>rfl;rfl)|apply qV|apply qW|apply qX|apply qY|apply qZ)
      refine ⟨[0, 1, 2, 3, 4], by decide, rfl, ?_⟩
      exact ⟨120 - (i + 1), _, _, by omega, ⟨i + 1, m2, r2, by omega, hS2, rfl, rfl⟩, rfl, (by first | rfl | ((conv => lhs; simp only [go_sem, ibin, ishift]) <;> rfl))⟩
    have z5 : decide (x.k = 5) = false := decide_eq_false k5
    by_cases k7 : x.k = 7
    · have z7 : decide (x.k = 7) = true := decide_eq_true k7
      have he : m.apply x = m.drop x.a := by simp [Mi.apply, *]
      (repeat' with_reducible first |apply qA|apply qB|apply qC|apply qD|apply qE|apply qF|(apply qG;decide)|apply qH|apply qI|apply qJ|apply qK|((first|apply qL|apply qM|apply qN|apply qO|((first|apply qP|apply qQ);decide +kernel));(conv=>lhs;simp only[go_sem, ibin, ishift, d1, d2, h1, h2, h0, hil, hgx, cNt, z1, z4, z5, z7])<;>rfl)|((first|apply qR|apply qS);(conv=>lhs;simp only[go_sem])<;>rfl;rfl)|((first|apply qT|apply qU);(conv=>lhs;simp only[go_sem])<;>rfl;rfl)|apply qV|apply qW|apply qX|apply qY|apply qZ)
      (with_reducible((first|apply pA|apply pB|apply pC|apply pD|apply pE|((first|apply pF|apply pG);decide +kernel));(conv=>lhs;simp only[go_sem, ibin, ishift])<;>rfl))
      refine CK_call [1, 2, 3] (drop_spec c.w.toTabM m hw x.a) (by decide) (by simp) rfl rfl (by first | rfl | (simp only [go_sem, Mi.h]; done) | (simp only [go_sem, Mi.h] <;> rfl)) ?_
      rintro v h' ⟨rfl, rfl⟩
      rw [← he]
      have hq := hS.apply x
      generalize m.apply x = q at hq ⊢
      obtain ⟨m2, e⟩ := q
      simp only at hq
      unfold Mi.h
      (with_reducible((first|apply WO2_finw|apply WO2_fina);(conv=>lhs;simp only[go_sem, ibin, ishift])<;>rfl))
      (repeat' with_reducible first |apply qA|apply qB|apply qC|apply qD|apply qE|apply qF|(apply qG;decide)|apply qH|apply qI|apply qJ|apply qK|((first|apply qL|apply qM|apply qN|apply qO|((first|apply qP|apply qQ);decide +kernel));(conv=>lhs;simp only[go_sem, ibin, ishift])<;>rfl)|((first|apply qR|apply qS);(conv=>lhs;simp only[go_sem])<;>rfl;rfl)|((first|apply qT|apply qU);(conv=>lhs;simp only[go_sem])<;>rfl;rfl)|apply qV|apply qW|apply qX|apply qY|apply qZ)
      (with_reducible((first|apply pA|apply pB|apply pC|apply pD|apply pE|((first|apply pF|apply pG);decide +kernel));(conv=>lhs;simp only[go_sem, ibin, ishift])<;>rfl))
      refine CK_pure (rapply_spec c.r r hzr x) (by first | rfl | (simp only [go_sem, Rm.v, Nt.v]; done) | (simp only [go_sem, Rm.v, Nt.v] <;> rfl)) ?_
      rintro v h' ⟨rfl, rfl⟩
      generalize r.apply x = q2 at hq
      obtain ⟨r2, e2⟩ := q2
      simp only at hq ⊢
      obtain ⟨rfl, hS2⟩ := hq
      have hv2 : r2.v = .agg [.fz 3 (r2.l.ns.map cN), .fz 2 (r2.l.es.map cD), .fz 2 (r2.sp.map cSp), .fz 3 (r2.td.map cTd), .fz 1 (r2.dn.map cI), .fz 3 (r2.ls.map cTd)] := rfl
      rw [hv2]
      have ze : decide (e = e) = true := by simp
      (with_reducible((first|apply WO2_finw|apply WO2_fina);(conv=>lhs;simp only[go_sem, ibin, ishift])<;>rfl))
      (repeat' with_reducible first |apply qA|apply qB|apply qC|apply qD|apply qE|apply qF|(apply qG;decide)|apply qH|apply qI|apply qJ|apply qK|((first|apply qL|apply qM|apply qN|apply qO|((first|apply qP|apply qQ);decide +kernel));(conv=>lhs;simp only[go_sem, ibin, ishift, ze, wi1])<;>rfl)|((first|apply qR|apply qS);(conv=>lhs;simp only[go_sem])<;>rfl;rfl)|((first|apply qT|apply qU);(conv=>lhs;simp only[go_sem])<;>rfl;rfl)|apply qV|apply qW|apply qX|apply qY|apply qZ)
      refine ⟨[0, 1, 2, 3, 4], by decide, rfl, ?_⟩
      exact ⟨120 - (i + 1), _, _, by omega, ⟨i + 1, m2, r2, by omega, hS2, rfl, rfl⟩, rfl, (by first | rfl | ((conv => lhs; simp only [go_sem, ibin, ishift]) <;> rfl))⟩
    have z7 : decide (x.k = 7) = false := decide_eq_false k7
    by_cases k8 : x.k = 8
    · have z8 : decide (x.k = 8) = true := decide_eq_true k8
      have he : m.apply x = m.mask x.a (decide (x.b = 1)) := by simp [Mi.apply, *]
      (repeat' with_reducible first |apply qA|apply qB|apply qC|apply qD|apply qE|apply qF|(apply qG;decide)|apply qH|apply qI|apply qJ|apply qK|((first|apply qL|apply qM|apply qN|apply qO|((first|apply qP|apply qQ);decide +kernel));(conv=>lhs;simp only[go_sem, ibin, ishift, d1, d2, h1, h2, h0, hil, hgx, cNt, z1, z4, z5, z7, z8])<;>rfl)|((first|apply qR|apply qS);(conv=>lhs;simp only[go_sem])<;>rfl;rfl)|((first|apply qT|apply qU);(conv=>lhs;simp only[go_sem])<;>rfl;rfl)|apply qV|apply qW|apply qX|apply qY|apply qZ)
      (with_reducible((first|apply pA|apply pB|apply pC|apply pD|apply pE|((first|apply pF|apply pG);decide +kernel));(conv=>lhs;simp only[go_sem, ibin, ishift])<;>rfl))
      refine CK_call [1, 2, 3] (mask_spec c.w.toTabM m hw x.a (decide (x.b = 1))) (by decide) (by simp) rfl rfl (by first | rfl | (simp only [go_sem, Mi.h]; done) | (simp only [go_sem, Mi.h] <;> rfl)) ?_
      rintro v h' ⟨rfl, rfl⟩
      rw [← he]
      have hq := hS.apply x
      generalize m.apply x = q at hq ⊢
      obtain ⟨m2, e⟩ := q
      simp only at hq
      unfold Mi.h
      (with_reducible((first|apply WO2_finw|apply WO2_fina);(conv=>lhs;simp only[go_sem, ibin, ishift])<;>rfl))
      (repeat' with_reducible first |apply qA|apply qB|apply qC|apply qD|apply qE|apply qF|(apply qG;decide)|apply qH|apply qI|apply qJ|apply qK|((first|apply qL|apply qM|apply qN|apply qO|((first|apply qP|apply qQ);decide +kernel));(conv=>lhs;simp only[go_sem, ibin, ishift])<;>rfl)|((first|apply qR|apply qS);(conv=>lhs;simp only[go_sem])<;>rfl;rfl)|((first|apply qT|apply qU);(conv=>lhs;simp only[go_sem])<;>rfl;rfl)|apply qV|apply qW|apply qX|apply qY|apply qZ)
      (with_reducible((first|apply pA|apply pB|apply pC|apply pD|apply pE|((first|apply pF|apply pG);decide +kernel));(conv=>lhs;simp only[go_sem, ibin, ishift])<;>rfl))
      refine CK_pure (rapply_spec c.r r hzr x) (by first | rfl | (simp only [go_sem, Rm.v, Nt.v]; done) | (simp only [go_sem, Rm.v, Nt.v] <;> rfl)) ?_
      rintro v h' ⟨rfl, rfl⟩
      generalize r.apply x = q2 at hq
      obtain ⟨r2, e2⟩ := q2
      simp only at hq ⊢
      obtain ⟨rfl, hS2⟩ := hq
      have hv2 : r2.v = .agg [.fz 3 (r2.l.ns.map cN), .fz 2 (r2.l.es.map cD), .fz 2 (r2.sp.map cSp), .fz 3 (r2.td.map cTd), .fz 1 (r2.dn.map cI), .fz 3 (r2.ls.map cTd)] := rfl
      rw [hv2]
      have ze : decide (e = e) = true := by simp
      (with_reducible((first|apply WO2_finw|apply WO2_fina);(conv=>lhs;simp only[go_sem, ibin, ishift])<;>rfl))
      (repeat' with_reducible first |apply qA|apply qB|apply qC|apply qD|apply qE|apply qF|(apply qG;decide)|apply qH|apply qI|apply qJ|apply qK|((first|apply qL|apply qM|apply qN|apply qO|((first|apply qP|apply qQ);decide +kernel));(conv=>lhs;simp only[go_sem, ibin, ishift, ze, wi1])<;>rfl)|((first|apply qR|apply qS);(conv=>lhs;simp only[go_sem])<;>rfl;rfl)|((first|apply qT|apply qU);(conv=>lhs;simp only[go_sem])<;>rfl;rfl)|apply qV|apply qW|apply qX|apply qY|apply qZ)
      refine ⟨[0, 1, 2, 3, 4], by decide, rfl, ?_⟩
      exact ⟨120 - (i + 1), _, _, by omega, ⟨i + 1, m2, r2, by omega, hS2, rfl, rfl⟩, rfl, (by first | rfl | ((conv => lhs; simp only [go_sem, ibin, ishift]) <;> rfl))⟩
    have z8 : decide (x.k = 8) = false := decide_eq_false k8
    have he : m.apply x = (m, 23) := by simp [Mi.apply, *]
    have hq := hS.apply x
    rw [he] at hq
    (repeat' with_reducible first |apply qA|apply qB|apply qC|apply qD|apply qE|apply qF|(apply qG;decide)|apply qH|apply qI|apply qJ|apply qK|((first|apply qL|apply qM|apply qN|apply qO|((first|apply qP|apply qQ);decide +kernel));(conv=>lhs;simp only[go_sem, ibin, ishift, d1, d2, h1, h2, h0, hil, hgx, cNt, z1, z4, z5, z7, z8])<;>rfl)|((first|apply qR|apply qS);(conv=>lhs;simp only[go_sem])<;>rfl;rfl)|((first|apply qT|apply qU);(conv=>lhs;simp only[go_sem])<;>rfl;rfl)|apply qV|apply qW|apply qX|apply qY|apply qZ)
    (with_reducible((first|apply pA|apply pB|apply pC|apply pD|apply pE|((first|apply pF|apply pG);decide +kernel));(conv=>lhs;simp only[go_sem, ibin, ishift])<;>rfl))
    refine CK_pure (rapply_spec c.r r hzr x) (by first | rfl | (simp only [go_sem, Rm.v, Nt.v]; done) | (simp only [go_sem, Rm.v, Nt.v] <;> rfl)) ?_
    rintro v h' ⟨rfl, rfl⟩
    generalize r.apply x = q2 at hq
    obtain ⟨r2, e2⟩ := q2
    simp only at hq ⊢
    obtain ⟨rfl, hS2⟩ := hq
    have hv2 : r2.v = .agg [.fz 3 (r2.l.ns.map cN), .fz 2 (r2.l.es.map cD), .fz 2 (r2.sp.map cSp), .fz 3 (r2.td.map cTd), .fz 1 (r2.dn.map cI), .fz 3 (r2.ls.map cTd)] := rfl
    rw [hv2]
    (with_reducible((first|apply WO2_finw|apply WO2_fina);(conv=>lhs;simp only[go_sem, ibin, ishift])<;>rfl))
    (repeat' with_reducible first |apply qA|apply qB|apply qC|apply qD|apply qE|apply qF|(apply qG;decide)|apply qH|apply qI|apply qJ|apply qK|((first|apply qL|apply qM|apply qN|apply qO|((first|apply qP|apply qQ);decide +kernel));(conv=>lhs;simp only[go_sem, ibin, ishift, wi1])<;>rfl)|((first|apply qR|apply qS);(conv=>lhs;simp only[go_sem])<;>rfl;rfl)|((first|apply qT|apply qU);(conv=>lhs;simp only[go_sem])<;>rfl;rfl)|apply qV|apply qW|apply qX|apply qY|apply qZ)
    refine ⟨[0, 1, 2, 3, 4], by decide, rfl, ?_⟩
    exact ⟨120 - (i + 1), _, _, by omega, ⟨i + 1, m, r2, by omega, hS2, rfl, rfl⟩, rfl, (by first | rfl | ((conv => lhs; simp only [go_sem, ibin, ishift]) <;> rfl))⟩
end Go.Proofs.Ytjijhkmimjolhaa.Ab
