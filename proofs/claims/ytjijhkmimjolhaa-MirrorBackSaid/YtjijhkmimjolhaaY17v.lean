/- Chapter 17: MirrorBack. -/
import Derived.Test.YtjijhkmimjolhaaY17t
namespace Go.Proofs.Ytjijhkmimjolhaa.Ab
open Go
set_option linter.unusedVariables false
set_option linter.unusedSimpArgs false
variable {T : AT}
theorem send_back {l : Lay} {m : Mi} (h : One l m) {a b c : Int} (hc : (m.send a b c).2 = 0) : ∃ m1 m2 e, m.send a b c = (m1, 0) ∧ One l m1 ∧ 1 ≤ a ∧ a ≤ l.es.length ∧ l.es[(a - 1).toNat]? = some e ∧ m1.told a = (b, c, true) ∧ m1.taken e.b = true ∧ m1.drop a = (m2, 0) ∧ One l m2 ∧ m2.last a = (c, true) ∧ m2.loc b = e.a := by
  have ok1 := Mi.send_ok h.ok a b c
  rcases m.send_cases a b c with q | ⟨x, e, h1, h2, _, _, h5, h6, _, h8, h9, h10, h11, q⟩
  · exact (q.1 hc).elim
  rw [q] at ok1
  have o1 := h.send h2 h1 h5 h6 h8 h9 h10 h11 rfl ok1
  obtain ⟨d0, d1, d2, d3, _⟩ := Mi.dev h2
  have hbr := noTote_in h1
  have hset : (m.ds.set a.toNat ⟨b, c, true, x.down⟩)[a.toNat]? = some ⟨b, c, true, x.down⟩ := List.getElem?_set_self d3
  have hnd : (Mi.mk m.es m.w m.at_ (m.ds.set a.toNat ⟨b, c, true, x.down⟩)).noDev a = false := noDev_out (by simp only [List.length_set]; omega)
  have hed := h.ok.ed e (List.mem_of_getElem? h6)
  have hdr : (Mi.mk m.es m.w m.at_ (m.ds.set a.toNat ⟨b, c, true, x.down⟩)).drop a = (⟨m.es, m.w, m.at_, (m.ds.set a.toNat ⟨b, c, true, x.down⟩).set a.toNat ⟨0, c, true, x.down⟩⟩, 0) := by
    rw [Mi.drop, if_neg (by rw [hnd]; decide)]
    simp only [hset]
    rw [if_neg (by omega)]
  have ok2 := Mi.drop_ok ok1 a
  simp only at ok2
  rw [hdr] at ok2
  have hdl := h.ok.dl
  rw [h.es] at h6 hdl
  refine ⟨_, _, e, q, o1, d1, by omega, h6, ?_, ?_, hdr, o1.dev0 (.inl rfl) ok2, ?_, ?_⟩
  · rw [Mi.told, hnd]
    simp only [Bool.false_eq_true, if_false, hset]
    rw [if_neg (by omega)]
  · rw [Mi.taken, noNode_out (by simp only; omega)]
    simp only [Bool.not_false, Bool.true_and, Bool.or_eq_true]
    left
    refine busy_true hset ?_
    simp only [busyAt, h.es]
    rw [show a.toNat - 1 = (a - 1).toNat by omega, h6]
    simp
    omega
  · rw [Mi.last, if_neg (by rw [noDev_out (by simp only [List.length_set]; omega)]; decide)]
    simp only [List.set_set]
    rw [List.getElem?_set_self d3]
    simp
  · rw [← h9]; rfl
set_option maxHeartbeats 4000000 in
theorem mirrorBack_law (c : TabV T) (hT : T i_stillagelaw17_MirrorBack = some (.fn c_stillagelaw17_MirrorBack)) (l : Lay) (hs : ∀ x ∈ l.ns, x.name.length ≤ 9223372036854775807) (s : List Nt) (n : Nt) :
    Ret2 T 0 i_stillagelaw17_MirrorBack [l.v, .fz 4 (s.map cNt), n.v] [] (fun v h' => v = .b true) := by
  refine Ret2_fnv hT rfl rfl ?_
  unfold Nt.v
  have hv : l.v = .agg [.fz 3 (l.ns.map cN), .fz 2 (l.es.map cD)] := rfl
  rw [hv]
  (repeat' with_reducible first |apply qA|apply qB|apply qC|apply qD|apply qE|apply qF|(apply qG;decide)|apply qH|apply qI|apply qJ|apply qK|((first|apply qL|apply qM|apply qN|apply qO|((first|apply qP|apply qQ);decide +kernel));(conv=>lhs;simp only[go_sem, ibin, ishift])<;>rfl)|((first|apply qR|apply qS);(conv=>lhs;simp only[go_sem])<;>rfl;rfl)|((first|apply qT|apply qU);(conv=>lhs;simp only[go_sem])<;>rfl;rfl)|apply qV|apply qW|apply qX|apply qY|apply qZ)
  (with_reducible((first|apply pA|apply pB|apply pC|apply pD|apply pE|((first|apply pF|apply pG);decide +kernel));(conv=>lhs;simp only[go_sem, ibin, ishift])<;>rfl))
  refine CK_pure (awake_spec c.w) rfl ?_
  rintro v h' ⟨rfl, rfl⟩
  (with_reducible((first|apply pA|apply pB|apply pC|apply pD|apply pE|((first|apply pF|apply pG);decide +kernel));(conv=>lhs;simp only[go_sem, ibin, ishift])<;>rfl))
  refine CK_pure (few_spec c.w l) (by first | rfl | (simp only [go_sem, Lay.v]; done) | (simp only [go_sem, Lay.v] <;> rfl)) ?_
  rintro v h' ⟨rfl, rfl⟩
  by_cases hf : l.ns.length ≤ 60 ∧ l.es.length ≤ 200
  rotate_left
  · rw [decide_eq_false hf]
    (with_reducible((first|apply WO2_finw|apply WO2_fina);(conv=>lhs;simp only[go_sem, ibin, ishift])<;>rfl))
    (repeat' with_reducible first |apply qA|apply qB|apply qC|apply qD|apply qE|apply qF|(apply qG;decide)|apply qH|apply qI|apply qJ|apply qK|((first|apply qL|apply qM|apply qN|apply qO|((first|apply qP|apply qQ);decide +kernel));(conv=>lhs;simp only[go_sem, ibin, ishift])<;>rfl)|((first|apply qR|apply qS);(conv=>lhs;simp only[go_sem])<;>rfl;rfl)|((first|apply qT|apply qU);(conv=>lhs;simp only[go_sem])<;>rfl;rfl)|apply qV|apply qW|apply qX|apply qY|apply qZ)
    (with_reducible((first|apply pA|apply pB|apply pC|apply pD|apply pE|((first|apply pF|apply pG);decide +kernel));(conv=>lhs;simp only[go_sem, ibin, ishift])<;>rfl))
    refine CK_pure (awake_spec c.w) rfl ?_
    rintro v h' ⟨rfl, rfl⟩
    (with_reducible((first|apply WO2_finw|apply WO2_fina);(conv=>lhs;simp only[go_sem, ibin, ishift])<;>rfl))
    (repeat' with_reducible first |apply qA|apply qB|apply qC|apply qD|apply qE|apply qF|(apply qG;decide)|apply qH|apply qI|apply qJ|apply qK|((first|apply qL|apply qM|apply qN|apply qO|((first|apply qP|apply qQ);decide +kernel));(conv=>lhs;simp only[go_sem, ibin, ishift])<;>rfl)|((first|apply qR|apply qS);(conv=>lhs;simp only[go_sem])<;>rfl;rfl)|((first|apply qT|apply qU);(conv=>lhs;simp only[go_sem])<;>rfl;rfl)|apply qV|apply qW|apply qX|apply qY|apply qZ)
    refine ⟨by first | exact .inr rfl | exact .inl rfl, _, _, (by (conv => lhs; simp only [go_sem, ibin, ishift]) <;> with_reducible rfl), (by (conv => lhs; simp only [go_sem, ibin, ishift]) <;> with_reducible rfl), ?_⟩
    refine ⟨[], by decide, rfl, ?_⟩
    rfl
  rw [decide_eq_true hf]
  (with_reducible((first|apply WO2_finw|apply WO2_fina);(conv=>lhs;simp only[go_sem, ibin, ishift])<;>rfl))
  (repeat' with_reducible first |apply qA|apply qB|apply qC|apply qD|apply qE|apply qF|(apply qG;decide)|apply qH|apply qI|apply qJ|apply qK|((first|apply qL|apply qM|apply qN|apply qO|((first|apply qP|apply qQ);decide +kernel));(conv=>lhs;simp only[go_sem, ibin, ishift])<;>rfl)|((first|apply qR|apply qS);(conv=>lhs;simp only[go_sem])<;>rfl;rfl)|((first|apply qT|apply qU);(conv=>lhs;simp only[go_sem])<;>rfl;rfl)|apply qV|apply qW|apply qX|apply qY|apply qZ)
  (with_reducible((first|apply pA|apply pB|apply pC|apply pD|apply pE|((first|apply pF|apply pG);decide +kernel));(conv=>lhs;simp only[go_sem, ibin, ishift])<;>rfl))
  refine CK_pure (new_spec c.w.toTabM l ⟨by omega, by omega⟩ hs) (by first | rfl | (simp only [go_sem, Lay.v]; done) | (simp only [go_sem, Lay.v] <;> rfl)) ?_
  rintro v h' ⟨hh0, hh1⟩
  cases hg : l.good with
  | false =>
    obtain ⟨rfl, rfl⟩ := hh0 hg
    (with_reducible((first|apply WO2_finw|apply WO2_fina);(conv=>lhs;simp only[go_sem, ibin, ishift])<;>rfl))
    (repeat' with_reducible first |apply qA|apply qB|apply qC|apply qD|apply qE|apply qF|(apply qG;decide)|apply qH|apply qI|apply qJ|apply qK|((first|apply qL|apply qM|apply qN|apply qO|((first|apply qP|apply qQ);decide +kernel));(conv=>lhs;simp only[go_sem, ibin, ishift])<;>rfl)|((first|apply qR|apply qS);(conv=>lhs;simp only[go_sem])<;>rfl;rfl)|((first|apply qT|apply qU);(conv=>lhs;simp only[go_sem])<;>rfl;rfl)|apply qV|apply qW|apply qX|apply qY|apply qZ)
    (with_reducible((first|apply pA|apply pB|apply pC|apply pD|apply pE|((first|apply pF|apply pG);decide +kernel));(conv=>lhs;simp only[go_sem, ibin, ishift])<;>rfl))
    refine CK_pure (rnew_spec c.r l ⟨by omega, by omega⟩ hs) (by first | rfl | (simp only [go_sem, Lay.v]; done) | (simp only [go_sem, Lay.v] <;> rfl)) ?_
    rintro v h' ⟨rh0, rh1⟩
    obtain ⟨rfl, rfl⟩ := rh0 hg
    (with_reducible((first|apply WO2_finw|apply WO2_fina);(conv=>lhs;simp only[go_sem, ibin, ishift])<;>rfl))
    (repeat' with_reducible first |apply qA|apply qB|apply qC|apply qD|apply qE|apply qF|(apply qG;decide)|apply qH|apply qI|apply qJ|apply qK|((first|apply qL|apply qM|apply qN|apply qO|((first|apply qP|apply qQ);decide +kernel));(conv=>lhs;simp only[go_sem, ibin, ishift])<;>rfl)|((first|apply qR|apply qS);(conv=>lhs;simp only[go_sem])<;>rfl;rfl)|((first|apply qT|apply qU);(conv=>lhs;simp only[go_sem])<;>rfl;rfl)|apply qV|apply qW|apply qX|apply qY|apply qZ)
    refine ⟨by first | exact .inr rfl | exact .inl rfl, _, _, (by (conv => lhs; simp only [go_sem, ibin, ishift]) <;> with_reducible rfl), (by (conv => lhs; simp only [go_sem, ibin, ishift]) <;> with_reducible rfl), ?_⟩
    refine ⟨[], by decide, rfl, ?_⟩
    rfl
  | true =>
    obtain ⟨rfl, rfl⟩ := hh1 hg
    have hS0 := Sim.new hg
    have hz := good_sz hg
    generalize Mi.new l = p0 at hS0
    unfold Mi.h
    (with_reducible((first|apply WO2_finw|apply WO2_fina);(conv=>lhs;simp only[go_sem, ibin, ishift])<;>rfl))
    (repeat' with_reducible first |apply qA|apply qB|apply qC|apply qD|apply qE|apply qF|(apply qG;decide)|apply qH|apply qI|apply qJ|apply qK|((first|apply qL|apply qM|apply qN|apply qO|((first|apply qP|apply qQ);decide +kernel));(conv=>lhs;simp only[go_sem, ibin, ishift])<;>rfl)|((first|apply qR|apply qS);(conv=>lhs;simp only[go_sem])<;>rfl;rfl)|((first|apply qT|apply qU);(conv=>lhs;simp only[go_sem])<;>rfl;rfl)|apply qV|apply qW|apply qX|apply qY|apply qZ)
    (with_reducible((first|apply pA|apply pB|apply pC|apply pD|apply pE|((first|apply pF|apply pG);decide +kernel));(conv=>lhs;simp only[go_sem, ibin, ishift])<;>rfl))
    refine CK_pure (rnew_spec c.r l ⟨by omega, by omega⟩ hs) (by first | rfl | (simp only [go_sem, Lay.v]; done) | (simp only [go_sem, Lay.v] <;> rfl)) ?_
    rintro v h' ⟨rh0, rh1⟩
    obtain ⟨rfl, rfl⟩ := rh1 hg
    generalize Rm.new l = r0 at hS0
    have hv0 : r0.v = .agg [.fz 3 (r0.l.ns.map cN), .fz 2 (r0.l.es.map cD), .fz 2 (r0.sp.map cSp), .fz 3 (r0.td.map cTd), .fz 1 (r0.dn.map cI), .fz 3 (r0.ls.map cTd)] := rfl
    rw [hv0]
    (with_reducible((first|apply WO2_finw|apply WO2_fina);(conv=>lhs;simp only[go_sem, ibin, ishift])<;>rfl))
    (repeat' with_reducible first |apply qA|apply qB|apply qC|apply qD|apply qE|apply qF|(apply qG;decide)|apply qH|apply qI|apply qJ|apply qK|((first|apply qL|apply qM|apply qN|apply qO|((first|apply qP|apply qQ);decide +kernel));(conv=>lhs;simp only[go_sem, ibin, ishift])<;>rfl)|((first|apply qR|apply qS);(conv=>lhs;simp only[go_sem])<;>rfl;rfl)|((first|apply qT|apply qU);(conv=>lhs;simp only[go_sem])<;>rfl;rfl)|apply qV|apply qW|apply qX|apply qY|apply qZ)
    refine W2_loopu (fun mm u g => ∃ (i : Nat) (m : Mi) (r : Rm), i + mm = 100 ∧ Sim l m r i ∧ u = [(11, .i .i64 i)] ∧ g = [(2, .obj (.fz 2 (m.es.map cD) :: ((m.w.map fun n => SV.p (PV.i .i64 n)) ++ [.sl 1 3 0 m.at_.length none, .sl 4 4 0 m.ds.length none]))), (3, .arr 1 (m.at_.map cI)), (4, .arr 4 (m.ds.map cMd)), (5, .obj [.fz 3 (r.l.ns.map cN), .fz 2 (r.l.es.map cD), .fz 2 (r.sp.map cSp), .fz 3 (r.td.map cTd), .fz 1 (r.dn.map cI), .fz 3 (r.ls.map cTd)])]) 100 ⟨0, p0, r0, by omega, hS0, rfl, rfl⟩ rfl rfl ?_
    rintro mm u g ⟨i, m, r, hi, hS, rfl, rfl⟩
    intro e1 h1 he1 hh1; simp only [egd, supE, hgd, supH, Nat.reduceEqDiff, Nat.reduceAdd, if_true, if_false, reduceIte] at he1 hh1; subst he1; subst hh1
    have hzr : r.Sz := hS.sz (by omega) ⟨by omega, by omega⟩
    have hm := hS.one.ok
    have hw := hm.wl
    by_cases hil : i < s.length ∧ i < 100
    · obtain ⟨hil, hi2⟩ := hil
      have hgx := List.getElem?_eq_getElem hil
      generalize s[i] = x at hgx
      have h0 : (0 : Int) ≤ (i : Int) := by omega
      have h1 : (i : Int) < (s.length : Int) := by omega
      have h2 : (i : Int) < 100 := by omega
      have d1 : decide ((i : Int) < (s.length : Int)) = true := decide_eq_true h1
      have d2 : decide ((i : Int) < 100) = true := decide_eq_true h2
      have wi1 := wS (show i < 9223372036854775807 by omega)
      have hq := hS.apply x
      (repeat' with_reducible first |apply qA|apply qB|apply qC|apply qD|apply qE|apply qF|(apply qG;decide)|apply qH|apply qI|apply qJ|apply qK|((first|apply qL|apply qM|apply qN|apply qO|((first|apply qP|apply qQ);decide +kernel));(conv=>lhs;simp only[go_sem, ibin, ishift, d1, d2, h1, h2, h0, hil, hgx, cNt])<;>rfl)|((first|apply qR|apply qS);(conv=>lhs;simp only[go_sem])<;>rfl;rfl)|((first|apply qT|apply qU);(conv=>lhs;simp only[go_sem])<;>rfl;rfl)|apply qV|apply qW|apply qX|apply qY|apply qZ)
      (with_reducible((first|apply pA|apply pB|apply pC|apply pD|apply pE|((first|apply pF|apply pG);decide +kernel));(conv=>lhs;simp only[go_sem, ibin, ishift, h1, h0, hil, hgx, cNt])<;>rfl))
      refine CK_call [2, 3, 4] (apply_spec c.w.toTabM m hm x) (by decide) (by simp) rfl rfl (by first | rfl | (simp only [go_sem, Mi.h, Nt.v]; done) | (simp only [go_sem, Mi.h, Nt.v] <;> rfl)) ?_
      rintro v h' ⟨rfl, rfl⟩
      generalize m.apply x = q at hq
      obtain ⟨m2, e⟩ := q
      simp only at hq
      unfold Mi.h
      (with_reducible((first|apply WO2_finw|apply WO2_fina);(conv=>lhs;simp only[go_sem, ibin, ishift])<;>rfl))
      (repeat' with_reducible first |apply qA|apply qB|apply qC|apply qD|apply qE|apply qF|(apply qG;decide)|apply qH|apply qI|apply qJ|apply qK|((first|apply qL|apply qM|apply qN|apply qO|((first|apply qP|apply qQ);decide +kernel));(conv=>lhs;simp only[go_sem, ibin, ishift])<;>rfl)|((first|apply qR|apply qS);(conv=>lhs;simp only[go_sem])<;>rfl;rfl)|((first|apply qT|apply qU);(conv=>lhs;simp only[go_sem])<;>rfl;rfl)|apply qV|apply qW|apply qX|apply qY|apply qZ)
      (with_reducible((first|apply pA|apply pB|apply pC|apply pD|apply pE|((first|apply pF|apply pG);decide +kernel));(conv=>lhs;simp only[go_sem, ibin, ishift, h1, h0, hil, hgx, cNt])<;>rfl))
      refine CK_pure (rapply_spec c.r r hzr x) (by first | rfl | (simp only [go_sem, Rm.v, Nt.v]; done) | (simp only [go_sem, Rm.v, Nt.v] <;> rfl)) ?_
      rintro v h' ⟨rfl, rfl⟩
      generalize r.apply x = q2 at hq
      obtain ⟨r2, e2⟩ := q2
      simp only at hq ⊢
      obtain ⟨_, hS2⟩ := hq
      have hv2 : r2.v = .agg [.fz 3 (r2.l.ns.map cN), .fz 2 (r2.l.es.map cD), .fz 2 (r2.sp.map cSp), .fz 3 (r2.td.map cTd), .fz 1 (r2.dn.map cI), .fz 3 (r2.ls.map cTd)] := rfl
      rw [hv2]
      (with_reducible((first|apply WO2_finw|apply WO2_fina);(conv=>lhs;simp only[go_sem, ibin, ishift])<;>rfl))
      (repeat' with_reducible first |apply qA|apply qB|apply qC|apply qD|apply qE|apply qF|(apply qG;decide)|apply qH|apply qI|apply qJ|apply qK|((first|apply qL|apply qM|apply qN|apply qO|((first|apply qP|apply qQ);decide +kernel));(conv=>lhs;simp only[go_sem, ibin, ishift, wi1])<;>rfl)|((first|apply qR|apply qS);(conv=>lhs;simp only[go_sem])<;>rfl;rfl)|((first|apply qT|apply qU);(conv=>lhs;simp only[go_sem])<;>rfl;rfl)|apply qV|apply qW|apply qX|apply qY|apply qZ)
      refine ⟨[0, 1, 2, 3, 4, 5], by decide, rfl, ?_⟩
      exact ⟨100 - (i + 1), _, _, by omega, ⟨i + 1, m2, r2, by omega, hS2, rfl, rfl⟩, rfl, (by first | rfl | ((conv => lhs; simp only [go_sem, ibin, ishift]) <;> rfl))⟩
    have hdec : (decide (i < s.length) && decide ((i : Int) < 100)) = false := by
      by_cases h : i < s.length
      · rw [decide_eq_false (show ¬((i : Int) < 100) by omega)]; simp
      · rw [decide_eq_false h]; rfl
    have hq := hS.send n.a n.b n.c
    ((repeat' with_reducible first |apply qA|apply qB|apply qC|apply qD|apply qE|apply qF|(apply qG;decide)|apply qH|apply qI|apply qJ|apply qK|apply qX|((first|apply qR|apply qS);(conv=>lhs;simp only[go_sem])<;>rfl;rfl)|((first|apply qT|apply qU);(conv=>lhs;simp only[go_sem])<;>rfl;rfl)|apply qZ|apply qY|apply qW);with_reducible((first|apply qL|apply qM|apply qN|apply qO|((first|apply qP|apply qQ);decide +kernel));(conv=>lhs;simp only[go_sem, ibin, ishift])<;>rfl))
    rw [hdec]
    (repeat' with_reducible first |apply qA|apply qB|apply qC|apply qD|apply qE|apply qF|(apply qG;decide)|apply qH|apply qI|apply qJ|apply qK|((first|apply qL|apply qM|apply qN|apply qO|((first|apply qP|apply qQ);decide +kernel));(conv=>lhs;simp only[go_sem, ibin, ishift])<;>rfl)|((first|apply qR|apply qS);(conv=>lhs;simp only[go_sem])<;>rfl;rfl)|((first|apply qT|apply qU);(conv=>lhs;simp only[go_sem])<;>rfl;rfl)|apply qV|apply qW|apply qX|apply qY|apply qZ)
    (with_reducible((first|apply pA|apply pB|apply pC|apply pD|apply pE|((first|apply pF|apply pG);decide +kernel));(conv=>lhs;simp only[go_sem, ibin, ishift])<;>rfl))
    refine CK_call [2, 3, 4] (send_spec c.w.toTabM m hm n.a n.b n.c) (by decide) (by simp) rfl rfl (by first | rfl | (simp only [go_sem, Mi.h]; done) | (simp only [go_sem, Mi.h] <;> rfl)) ?_
    rintro v h' ⟨rfl, rfl⟩
    by_cases hc : (m.send n.a n.b n.c).2 = 0
    rotate_left
    · have hsm : (m.send n.a n.b n.c).1 = m := by
        rcases m.send_cases n.a n.b n.c with q | ⟨x, e, _, _, _, _, _, _, _, _, _, _, _, q⟩
        · exact q.2
        · rw [q] at hc; exact (hc rfl).elim
      have d0 : decide ((m.send n.a n.b n.c).2 = 0) = false := decide_eq_false hc
      rw [hsm]
      unfold Mi.h
      (with_reducible((first|apply WO2_finw|apply WO2_fina);(conv=>lhs;simp only[go_sem, ibin, ishift, d0])<;>rfl))
      (repeat' with_reducible first |apply qA|apply qB|apply qC|apply qD|apply qE|apply qF|(apply qG;decide)|apply qH|apply qI|apply qJ|apply qK|((first|apply qL|apply qM|apply qN|apply qO|((first|apply qP|apply qQ);decide +kernel));(conv=>lhs;simp only[go_sem, ibin, ishift])<;>rfl)|((first|apply qR|apply qS);(conv=>lhs;simp only[go_sem])<;>rfl;rfl)|((first|apply qT|apply qU);(conv=>lhs;simp only[go_sem])<;>rfl;rfl)|apply qV|apply qW|apply qX|apply qY|apply qZ)
      (with_reducible((first|apply pA|apply pB|apply pC|apply pD|apply pE|((first|apply pF|apply pG);decide +kernel));(conv=>lhs;simp only[go_sem, ibin, ishift])<;>rfl))
      refine CK_call [2, 3, 4] (tells_spec c.w.toTabM c.r l m r i hS (by omega) ⟨by omega, by omega⟩) (by decide) (by simp) (by first | rfl | (simp only [go_sem, Rm.v]; done) | (simp only [go_sem, Rm.v] <;> rfl)) rfl (by first | rfl | (simp only [go_sem, Mi.h]; done) | (simp only [go_sem, Mi.h] <;> rfl)) ?_
      rintro v h' ⟨rfl, rfl⟩
      (with_reducible((first|apply WO2_finw|apply WO2_fina);(conv=>lhs;simp only[go_sem, ibin, ishift])<;>rfl))
      (repeat' with_reducible first |apply qA|apply qB|apply qC|apply qD|apply qE|apply qF|(apply qG;decide)|apply qH|apply qI|apply qJ|apply qK|((first|apply qL|apply qM|apply qN|apply qO|((first|apply qP|apply qQ);decide +kernel));(conv=>lhs;simp only[go_sem, ibin, ishift])<;>rfl)|((first|apply qR|apply qS);(conv=>lhs;simp only[go_sem])<;>rfl;rfl)|((first|apply qT|apply qU);(conv=>lhs;simp only[go_sem])<;>rfl;rfl)|apply qV|apply qW|apply qX|apply qY|apply qZ)
      refine ⟨by first | exact .inr rfl | exact .inl rfl, _, _, (by (conv => lhs; simp only [go_sem, ibin, ishift]) <;> with_reducible rfl), (by (conv => lhs; simp only [go_sem, ibin, ishift]) <;> with_reducible rfl), ?_⟩
      refine ⟨[], by decide, rfl, ?_⟩
      rfl
    obtain ⟨m1, m2, e, q1, o1, a1, a2, he, q2, q3, q4, o2, q5, q6⟩ := send_back hS.one hc
    rw [q1] at hq ⊢
    obtain ⟨_, hS1⟩ := hq
    have hq2 := hS1.drop n.a
    rw [show (m1, (0 : Int)).1 = m1 from rfl, q4] at hq2
    obtain ⟨_, hS2⟩ := hq2
    have hzr1 : (r.send n.a n.b n.c).1.Sz := hS1.sz (by omega) ⟨by omega, by omega⟩
    have hzr2 : ((r.send n.a n.b n.c).1.drop n.a).1.Sz := hS2.sz (by omega) ⟨by omega, by omega⟩
    have hm1 := o1.ok
    have hw1 := hm1.wl
    have hm2 := o2.ok
    have hw2 := hm2.wl
    have z1 : decide (n.b = n.b) = true := by simp
    have z2 : decide (n.c = n.c) = true := by simp
    have wd : IntKind.i64.wrap (n.a - 1) = n.a - 1 := wi _ (by omega) (by omega)
    have r0 : (0 : Int) ≤ n.a - 1 := by omega
    have r1 : n.a - 1 < (l.es.length : Int) := by omega
    have r2 : (n.a - 1).toNat < l.es.length := by omega
    simp only
    unfold Mi.h
    (with_reducible((first|apply WO2_finw|apply WO2_fina);(conv=>lhs;simp only[go_sem, ibin, ishift])<;>rfl))
    (repeat' with_reducible first |apply qA|apply qB|apply qC|apply qD|apply qE|apply qF|(apply qG;decide)|apply qH|apply qI|apply qJ|apply qK|((first|apply qL|apply qM|apply qN|apply qO|((first|apply qP|apply qQ);decide +kernel));(conv=>lhs;simp only[go_sem, ibin, ishift])<;>rfl)|((first|apply qR|apply qS);(conv=>lhs;simp only[go_sem])<;>rfl;rfl)|((first|apply qT|apply qU);(conv=>lhs;simp only[go_sem])<;>rfl;rfl)|apply qV|apply qW|apply qX|apply qY|apply qZ)
    (with_reducible((first|apply pA|apply pB|apply pC|apply pD|apply pE|((first|apply pF|apply pG);decide +kernel));(conv=>lhs;simp only[go_sem, ibin, ishift])<;>rfl))
    refine CK_call [2, 3, 4] (told_spec c.w.toTabM m1 hw1 n.a) (by decide) (by simp) rfl rfl (by first | rfl | (simp only [go_sem, Mi.h]; done) | (simp only [go_sem, Mi.h] <;> rfl)) ?_
    rintro v h' ⟨rfl, rfl⟩
    rw [q2]
    unfold Mi.h
    (with_reducible((first|apply WO2_finw|apply WO2_fina);(conv=>lhs;simp only[go_sem, ibin, ishift])<;>rfl))
    (repeat' with_reducible first |apply qA|apply qB|apply qC|apply qD|apply qE|apply qF|(apply qG;decide)|apply qH|apply qI|apply qJ|apply qK|((first|apply qL|apply qM|apply qN|apply qO|((first|apply qP|apply qQ);decide +kernel));(conv=>lhs;simp only[go_sem, ibin, ishift])<;>rfl)|((first|apply qR|apply qS);(conv=>lhs;simp only[go_sem])<;>rfl;rfl)|((first|apply qT|apply qU);(conv=>lhs;simp only[go_sem])<;>rfl;rfl)|apply qV|apply qW|apply qX|apply qY|apply qZ)
    (with_reducible((first|apply pA|apply pB|apply pC|apply pD|apply pE|((first|apply pF|apply pG);decide +kernel));(conv=>lhs;simp only[go_sem, ibin, ishift, z1, z2, wd, r0, r1, r2, he, cD])<;>rfl))
    refine CK_call [2, 3, 4] (taken_spec c.w.toTabM m1 hm1 e.b) (by decide) (by simp) rfl rfl (by first | rfl | (simp only [go_sem, Mi.h]; done) | (simp only [go_sem, Mi.h] <;> rfl)) ?_
    rintro v h' ⟨rfl, rfl⟩
    rw [q3]
    unfold Mi.h
    (with_reducible((first|apply pA|apply pB|apply pC|apply pD|apply pE|((first|apply pF|apply pG);decide +kernel));(conv=>lhs;simp only[go_sem, ibin, ishift])<;>rfl))
    refine CK_call [2, 3, 4] (drop_spec c.w.toTabM m1 hw1 n.a) (by decide) (by simp) rfl rfl (by first | rfl | (simp only [go_sem, Mi.h]; done) | (simp only [go_sem, Mi.h] <;> rfl)) ?_
    rintro v h' ⟨rfl, rfl⟩
    rw [q4]
    unfold Mi.h
    (with_reducible((first|apply WO2_finw|apply WO2_fina);(conv=>lhs;simp only[go_sem, ibin, ishift])<;>rfl))
    (repeat' with_reducible first |apply qA|apply qB|apply qC|apply qD|apply qE|apply qF|(apply qG;decide)|apply qH|apply qI|apply qJ|apply qK|((first|apply qL|apply qM|apply qN|apply qO|((first|apply qP|apply qQ);decide +kernel));(conv=>lhs;simp only[go_sem, ibin, ishift])<;>rfl)|((first|apply qR|apply qS);(conv=>lhs;simp only[go_sem])<;>rfl;rfl)|((first|apply qT|apply qU);(conv=>lhs;simp only[go_sem])<;>rfl;rfl)|apply qV|apply qW|apply qX|apply qY|apply qZ)
    (with_reducible((first|apply pA|apply pB|apply pC|apply pD|apply pE|((first|apply pF|apply pG);decide +kernel));(conv=>lhs;simp only[go_sem, ibin, ishift])<;>rfl))
    refine CK_call [2, 3, 4] (last_spec c.w.toTabM m2 hw2 n.a) (by decide) (by simp) rfl rfl (by first | rfl | (simp only [go_sem, Mi.h]; done) | (simp only [go_sem, Mi.h] <;> rfl)) ?_
    rintro v h' ⟨rfl, rfl⟩
    rw [q5]
    unfold Mi.h
    (with_reducible((first|apply WO2_finw|apply WO2_fina);(conv=>lhs;simp only[go_sem, ibin, ishift])<;>rfl))
    (repeat' with_reducible first |apply qA|apply qB|apply qC|apply qD|apply qE|apply qF|(apply qG;decide)|apply qH|apply qI|apply qJ|apply qK|((first|apply qL|apply qM|apply qN|apply qO|((first|apply qP|apply qQ);decide +kernel));(conv=>lhs;simp only[go_sem, ibin, ishift, z2])<;>rfl)|((first|apply qR|apply qS);(conv=>lhs;simp only[go_sem])<;>rfl;rfl)|((first|apply qT|apply qU);(conv=>lhs;simp only[go_sem])<;>rfl;rfl)|apply qV|apply qW|apply qX|apply qY|apply qZ)
    (with_reducible((first|apply pA|apply pB|apply pC|apply pD|apply pE|((first|apply pF|apply pG);decide +kernel));(conv=>lhs;simp only[go_sem, ibin, ishift])<;>rfl))
    refine CK_pure (rsend_spec c.r r hzr n.a n.b n.c) (by first | rfl | (simp only [go_sem, Rm.v]; done) | (simp only [go_sem, Rm.v] <;> rfl)) ?_
    rintro v h' ⟨rfl, rfl⟩
    generalize r.send n.a n.b n.c = rq1 at hzr1 hzr2 hS1 hS2
    obtain ⟨rr1, ec1⟩ := rq1
    simp only at hzr1 hzr2 hS1 hS2 ⊢
    have hv1 : rr1.v = .agg [.fz 3 (rr1.l.ns.map cN), .fz 2 (rr1.l.es.map cD), .fz 2 (rr1.sp.map cSp), .fz 3 (rr1.td.map cTd), .fz 1 (rr1.dn.map cI), .fz 3 (rr1.ls.map cTd)] := rfl
    rw [hv1]
    (with_reducible((first|apply WO2_finw|apply WO2_fina);(conv=>lhs;simp only[go_sem, ibin, ishift])<;>rfl))
    (repeat' with_reducible first |apply qA|apply qB|apply qC|apply qD|apply qE|apply qF|(apply qG;decide)|apply qH|apply qI|apply qJ|apply qK|((first|apply qL|apply qM|apply qN|apply qO|((first|apply qP|apply qQ);decide +kernel));(conv=>lhs;simp only[go_sem, ibin, ishift])<;>rfl)|((first|apply qR|apply qS);(conv=>lhs;simp only[go_sem])<;>rfl;rfl)|((first|apply qT|apply qU);(conv=>lhs;simp only[go_sem])<;>rfl;rfl)|apply qV|apply qW|apply qX|apply qY|apply qZ)
    (with_reducible((first|apply pA|apply pB|apply pC|apply pD|apply pE|((first|apply pF|apply pG);decide +kernel));(conv=>lhs;simp only[go_sem, ibin, ishift])<;>rfl))
    refine CK_pure (rdrop_spec c.r rr1 hzr1 n.a) (by first | rfl | (simp only [go_sem, Rm.v]; done) | (simp only [go_sem, Rm.v] <;> rfl)) ?_
    rintro v h' ⟨rfl, rfl⟩
    generalize rr1.drop n.a = rq2 at hzr2 hS2
    obtain ⟨rr2, ec2⟩ := rq2
    simp only at hzr2 hS2 ⊢
    have hv2 : rr2.v = .agg [.fz 3 (rr2.l.ns.map cN), .fz 2 (rr2.l.es.map cD), .fz 2 (rr2.sp.map cSp), .fz 3 (rr2.td.map cTd), .fz 1 (rr2.dn.map cI), .fz 3 (rr2.ls.map cTd)] := rfl
    rw [hv2]
    have z3 : decide (e.a = e.a) = true := by simp
    (with_reducible((first|apply WO2_finw|apply WO2_fina);(conv=>lhs;simp only[go_sem, ibin, ishift])<;>rfl))
    (repeat' with_reducible first |apply qA|apply qB|apply qC|apply qD|apply qE|apply qF|(apply qG;decide)|apply qH|apply qI|apply qJ|apply qK|((first|apply qL|apply qM|apply qN|apply qO|((first|apply qP|apply qQ);decide +kernel));(conv=>lhs;simp only[go_sem, ibin, ishift])<;>rfl)|((first|apply qR|apply qS);(conv=>lhs;simp only[go_sem])<;>rfl;rfl)|((first|apply qT|apply qU);(conv=>lhs;simp only[go_sem])<;>rfl;rfl)|apply qV|apply qW|apply qX|apply qY|apply qZ)
    (repeat' with_reducible first |apply qA|apply qB|apply qC|apply qD|apply qE|apply qF|(apply qG;decide)|apply qH|apply qI|apply qJ|apply qK|apply qX|((first|apply qR|apply qS);(conv=>lhs;simp only[go_sem])<;>rfl;rfl)|((first|apply qT|apply qU);(conv=>lhs;simp only[go_sem])<;>rfl;rfl)|apply qZ|apply qY|apply qW)
    (with_reducible first | apply W2_sregH [0, 1] [false, false, false, false, false, false, false, false, false, true, false, true, false, false, false, true, false] | apply W2_regH [0, 1] [false, false, false, false, false, false, false, false, false, true, false, true, false, false, false, true, false])
    · decide
    · decide
    · rfl
    ((conv => lhs; simp only [go_sem, ibin, ishift]) <;> with_reducible rfl)
    refine EH_call [2, 3, 4] (tells_spec c.w.toTabM c.r l m2 rr2 (i + 1 + 1) hS2 (by omega) ⟨by omega, by omega⟩) (by decide) (by simp) rfl (by first | rfl | (simp only [go_sem, Rm.v]; done) | (simp only [go_sem, Rm.v] <;> rfl)) rfl (by first | rfl | (simp only [go_sem, Mi.h]; done) | (simp only [go_sem, Mi.h] <;> rfl)) ?_
    rintro v h' ⟨rfl, rfl⟩
    unfold Mi.h
    refine WOH_b 157 rfl ?_
    (with_reducible apply WOH_go (by decide); ((conv => lhs; simp only [go_sem, ibin, ishift]) <;> with_reducible rfl))
    refine EH_call [2, 3, 4] (where_spec c.w.toTabM m2 hm2 n.b) (by decide) (by simp) rfl rfl rfl (by first | rfl | (simp only [go_sem, Mi.h]; done) | (simp only [go_sem, Mi.h] <;> rfl)) ?_
    rintro v h' ⟨rfl, rfl⟩
    rw [q6]
    unfold Mi.h
    (with_reducible apply WOH_go (by decide); ((conv => lhs; simp only [go_sem, ibin, ishift, wd, r0, r1, r2, he, cD, z3]) <;> with_reducible rfl))
    refine EH_go ?_
    (repeat' with_reducible first |apply qA|apply qB|apply qC|apply qD|apply qE|apply qF|(apply qG;decide)|apply qH|apply qI|apply qJ|apply qK|((first|apply qL|apply qM|apply qN|apply qO|((first|apply qP|apply qQ);decide +kernel));(conv=>lhs;simp only[go_sem, ibin, ishift])<;>rfl)|((first|apply qR|apply qS);(conv=>lhs;simp only[go_sem])<;>rfl;rfl)|((first|apply qT|apply qU);(conv=>lhs;simp only[go_sem])<;>rfl;rfl)|apply qV|apply qW|apply qX|apply qY|apply qZ)
    refine ⟨by first | exact .inr rfl | exact .inl rfl, _, _, (by (conv => lhs; simp only [go_sem, ibin, ishift]) <;> with_reducible rfl), (by (conv => lhs; simp only [go_sem, ibin, ishift]) <;> with_reducible rfl), ?_⟩
    refine ⟨[], by decide, rfl, ?_⟩
    rfl
end Go.Proofs.Ytjijhkmimjolhaa.Ab
