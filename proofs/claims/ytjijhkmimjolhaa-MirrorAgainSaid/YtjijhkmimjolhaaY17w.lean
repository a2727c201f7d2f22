/- Chapter 17: MirrorAgain. -/
import Derived.Test.YtjijhkmimjolhaaY17t
namespace Go.Proofs.Ytjijhkmimjolhaa.Ab
open Go
set_option linter.unusedVariables false
set_option linter.unusedSimpArgs false
variable {T : AT}
theorem apply_no {m : Mi} {n : Nt} (h : (m.apply n).2 ≠ 0) : (m.apply n).1 = m := by
  unfold Mi.apply at h ⊢
  split
  · rename_i k; rw [if_pos k] at h
    rcases m.put_cases n.a n.b with q | ⟨_, _, _, _, q⟩
    · exact q.2
    · rw [q] at h; exact (h rfl).elim
  rename_i k1; rw [if_neg k1] at h
  split
  · rename_i k; rw [if_pos k] at h
    rcases m.send_cases n.a n.b n.c with q | ⟨x, e, _, _, _, _, _, _, _, _, _, _, _, q⟩
    · exact q.2
    · rw [q] at h; exact (h rfl).elim
  rename_i k2; rw [if_neg k2] at h
  split
  · rename_i k; rw [if_pos k] at h
    rcases m.moved_cases n.a n.b with q | ⟨x, e, _, _, _, _, _, _, q⟩
    · exact q.2
    · rw [q] at h; exact (h rfl).elim
  rename_i k3; rw [if_neg k3] at h
  split
  · rename_i k; rw [if_pos k] at h
    rcases m.drop_cases n.a with q | ⟨x, _, _, _, q⟩
    · exact q.2
    · rw [q] at h; exact (h rfl).elim
  rename_i k4; rw [if_neg k4] at h
  split
  · rename_i k; rw [if_pos k] at h
    rcases m.mask_cases n.a (decide (n.b = 1)) with q | ⟨x, _, _, q⟩
    · exact q.2
    · rw [q] at h; exact (h rfl).elim
  · rfl
/-- what notes that are taken do -/
def Mi.run : Mi → List Nt → Option Mi
  | m, [] => some m
  | m, x :: W => if (m.apply x).2 = 0 then (m.apply x).1.run W else none
theorem run_snoc {x : Nt} : ∀ {p m : Mi} {W : List Nt}, p.run W = some m → (m.apply x).2 = 0 → p.run (W ++ [x]) = some (m.apply x).1
  | p, m, [], h, hx => by
    cases h
    simp only [List.nil_append, Mi.run, if_pos hx]
  | p, m, y :: W, h, hx => by
    simp only [List.cons_append, Mi.run] at h ⊢
    split at h
    · rename_i hy; rw [if_pos hy]; exact run_snoc h hx
    · cases h
set_option maxHeartbeats 4000000 in
theorem mirrorAgain_law (c : TabV T) (hT : T i_stillagelaw17_MirrorAgain = some (.fn c_stillagelaw17_MirrorAgain)) (l : Lay) (hs : ∀ x ∈ l.ns, x.name.length ≤ 9223372036854775807) (s : List Nt) :
    Ret2 T 0 i_stillagelaw17_MirrorAgain [l.v, .fz 4 (s.map cNt)] [] (fun v h' => v = .b true) := by
  refine Ret2_fnv hT rfl rfl ?_
  have hv : l.v = .agg [.fz 3 (l.ns.map cN), .fz 2 (l.es.map cD)] := rfl
  rw [hv]
  (repeat' with_reducible first |apply qA|apply qB|apply qC|apply qD|apply qE|apply qF|(apply qG;decide)|apply qH|apply qI|apply qJ|apply qK|((first|apply qL|apply qM|apply qN|apply qO|((first|apply qP|apply qQ);decide +kernel));(conv=>lhs;simp only[go_sem, ibin, ishift])<;>rfl)|((first|apply qR|apply qS);(conv=>lhs;simp only[go_sem])<;>rfl;rfl)|((first|apply qT|apply qU);(conv=>lhs;simp only[go_sem])<;>rfl;rfl)|apply qV|apply qW|apply qX|apply qY|apply qZ)
  (with_reducible((first|apply pA|apply pB|apply pC|apply pD|apply pE|((first|apply pF|apply pG);decide +kernel));(conv=>lhs;simp only[go_sem, ibin, ishift])<;>rfl))
  refine CK_pure (awake_spec c.w) rfl ?_
  rintro v h' ⟨rfl, rfl⟩
  (with_reducible((first|apply pA|apply pB|apply pC|apply pD|apply pE|((first|apply pF|apply pG);decide +kernel));(conv=>lhs;simp only[go_sem, ibin, ishift])<;>rfl))
  refine CK_pure (few_spec c.w l) (by first | rfl | (simp only [go_sem, Lay.v]; done) | (simp only [go_sem, Lay.v] <;> rfl)) ?_
  rintro v h' ⟨rfl, rfl⟩
  by_cases hf : l.ns.length ≤ 60 ∧ l.es.length ≤ 200
  rotate_left
  · rw [decide_eq_false hf]
    (with_reducible((first|apply WO2_finw|apply WO2_fina);(conv=>lhs;simp only[go_sem, ibin, ishift])<;>rfl))
    (repeat' with_reducible first |apply qA|apply qB|apply qC|apply qD|apply qE|apply qF|(apply qG;decide)|apply qH|apply qI|apply qJ|apply qK|((first|apply qL|apply qM|apply qN|apply qO|((first|apply qP|apply qQ);decide +kernel));(conv=>lhs;simp only[go_sem, ibin, ishift])<;>rfl)|((first|apply qR|apply qS);(conv=>lhs;simp only[go_sem])<;>rfl;rfl)|((first|apply qT|apply qU);(conv=>lhs;simp only[go_sem])<;>rfl;rfl)|apply qV|apply qW|apply qX|apply qY|apply qZ)
    (with_reducible((first|apply pA|apply pB|apply pC|apply pD|apply pE|((first|apply pF|apply pG);decide +kernel));(conv=>lhs;simp only[go_sem, ibin, ishift])<;>rfl))
    refine CK_pure (awake_spec c.w) rfl ?_
    rintro v h' ⟨rfl, rfl⟩
    (with_reducible((first|apply WO2_finw|apply WO2_fina);(conv=>lhs;simp only[go_sem, ibin, ishift])<;>rfl))
    (repeat' with_reducible first |apply qA|apply qB|apply qC|apply qD|apply qE|apply qF|(apply qG;decide)|apply qH|apply qI|apply qJ|apply qK|((first|apply qL|apply qM|apply qN|apply qO|((first|apply qP|apply qQ);decide +kernel));(conv=>lhs;simp only[go_sem, ibin, ishift])<;>rfl)|((first|apply qR|apply qS);(conv=>lhs;simp only[go_sem])<;>rfl;rfl)|((first|apply qT|apply qU);(conv=>lhs;simp only[go_sem])<;>rfl;rfl)|apply qV|apply qW|apply qX|apply qY|apply qZ)
    refine ⟨by first | exact .inr rfl | exact .inl rfl, _, _, (by (conv => lhs; simp only [go_sem, ibin, ishift]) <;> with_reducible rfl), (by (conv => lhs; simp only [go_sem, ibin, ishift]) <;> with_reducible rfl), ?_⟩
    refine ⟨[], by decide, rfl, ?_⟩
    rfl
  rw [decide_eq_true hf]
  (with_reducible((first|apply WO2_finw|apply WO2_fina);(conv=>lhs;simp only[go_sem, ibin, ishift])<;>rfl))
  (repeat' with_reducible first |apply qA|apply qB|apply qC|apply qD|apply qE|apply qF|(apply qG;decide)|apply qH|apply qI|apply qJ|apply qK|((first|apply qL|apply qM|apply qN|apply qO|((first|apply qP|apply qQ);decide +kernel));(conv=>lhs;simp only[go_sem, ibin, ishift])<;>rfl)|((first|apply qR|apply qS);(conv=>lhs;simp only[go_sem])<;>rfl;rfl)|((first|apply qT|apply qU);(conv=>lhs;simp only[go_sem])<;>rfl;rfl)|apply qV|apply qW|apply qX|apply qY|apply qZ)
  (with_reducible((first|apply pA|apply pB|apply pC|apply pD|apply pE|((first|apply pF|apply pG);decide +kernel));(conv=>lhs;simp only[go_sem, ibin, ishift])<;>rfl))
  refine CK_pure (new_spec c.w.toTabM l ⟨by omega, by omega⟩ hs) (by first | rfl | (simp only [go_sem, Lay.v]; done) | (simp only [go_sem, Lay.v] <;> rfl)) ?_
  rintro v h' ⟨hh0, hh1⟩
  cases hg : l.good with
  | false =>
    obtain ⟨rfl, rfl⟩ := hh0 hg
    (with_reducible((first|apply WO2_finw|apply WO2_fina);(conv=>lhs;simp only[go_sem, ibin, ishift])<;>rfl))
    (repeat' with_reducible first |apply qA|apply qB|apply qC|apply qD|apply qE|apply qF|(apply qG;decide)|apply qH|apply qI|apply qJ|apply qK|((first|apply qL|apply qM|apply qN|apply qO|((first|apply qP|apply qQ);decide +kernel));(conv=>lhs;simp only[go_sem, ibin, ishift])<;>rfl)|((first|apply qR|apply qS);(conv=>lhs;simp only[go_sem])<;>rfl;rfl)|((first|apply qT|apply qU);(conv=>lhs;simp only[go_sem])<;>rfl;rfl)|apply qV|apply qW|apply qX|apply qY|apply qZ)
    (with_reducible((first|apply pA|apply pB|apply pC|apply pD|apply pE|((first|apply pF|apply pG);decide +kernel));(conv=>lhs;simp only[go_sem, ibin, ishift])<;>rfl))
    refine CK_pure (new_spec c.w.toTabM l ⟨by omega, by omega⟩ hs) (by first | rfl | (simp only [go_sem, Lay.v]; done) | (simp only [go_sem, Lay.v] <;> rfl)) ?_
    rintro v h' ⟨hh2, _⟩
    obtain ⟨rfl, rfl⟩ := hh2 hg
    (with_reducible((first|apply WO2_finw|apply WO2_fina);(conv=>lhs;simp only[go_sem, ibin, ishift])<;>rfl))
    (repeat' with_reducible first |apply qA|apply qB|apply qC|apply qD|apply qE|apply qF|(apply qG;decide)|apply qH|apply qI|apply qJ|apply qK|((first|apply qL|apply qM|apply qN|apply qO|((first|apply qP|apply qQ);decide +kernel));(conv=>lhs;simp only[go_sem, ibin, ishift])<;>rfl)|((first|apply qR|apply qS);(conv=>lhs;simp only[go_sem])<;>rfl;rfl)|((first|apply qT|apply qU);(conv=>lhs;simp only[go_sem])<;>rfl;rfl)|apply qV|apply qW|apply qX|apply qY|apply qZ)
    (with_reducible((first|apply pA|apply pB|apply pC|apply pD|apply pE|((first|apply pF|apply pG);decide +kernel));(conv=>lhs;simp only[go_sem, ibin, ishift])<;>rfl))
    refine CK_pure (rnew_spec c.r l ⟨by omega, by omega⟩ hs) (by first | rfl | (simp only [go_sem, Lay.v]; done) | (simp only [go_sem, Lay.v] <;> rfl)) ?_
    rintro v h' ⟨rh0, rh1⟩
    obtain ⟨rfl, rfl⟩ := rh0 hg
    (with_reducible((first|apply WO2_finw|apply WO2_fina);(conv=>lhs;simp only[go_sem, ibin, ishift])<;>rfl))
    (repeat' with_reducible first |apply qA|apply qB|apply qC|apply qD|apply qE|apply qF|(apply qG;decide)|apply qH|apply qI|apply qJ|apply qK|((first|apply qL|apply qM|apply qN|apply qO|((first|apply qP|apply qQ);decide +kernel));(conv=>lhs;simp only[go_sem, ibin, ishift])<;>rfl)|((first|apply qR|apply qS);(conv=>lhs;simp only[go_sem])<;>rfl;rfl)|((first|apply qT|apply qU);(conv=>lhs;simp only[go_sem])<;>rfl;rfl)|apply qV|apply qW|apply qX|apply qY|apply qZ)
    refine ⟨by first | exact .inr rfl | exact .inl rfl, _, _, (by (conv => lhs; simp only [go_sem, ibin, ishift]) <;> with_reducible rfl), (by (conv => lhs; simp only [go_sem, ibin, ishift]) <;> with_reducible rfl), ?_⟩
    refine ⟨[], by decide, rfl, ?_⟩
    rfl
  | true =>
    obtain ⟨rfl, rfl⟩ := hh1 hg
    have hS0 := Sim.new hg
    have hz := good_sz hg
    generalize hp : Mi.new l = p0 at hS0
    unfold Mi.h
    (with_reducible((first|apply WO2_finw|apply WO2_fina);(conv=>lhs;simp only[go_sem, ibin, ishift])<;>rfl))
    (repeat' with_reducible first |apply qA|apply qB|apply qC|apply qD|apply qE|apply qF|(apply qG;decide)|apply qH|apply qI|apply qJ|apply qK|((first|apply qL|apply qM|apply qN|apply qO|((first|apply qP|apply qQ);decide +kernel));(conv=>lhs;simp only[go_sem, ibin, ishift])<;>rfl)|((first|apply qR|apply qS);(conv=>lhs;simp only[go_sem])<;>rfl;rfl)|((first|apply qT|apply qU);(conv=>lhs;simp only[go_sem])<;>rfl;rfl)|apply qV|apply qW|apply qX|apply qY|apply qZ)
    (with_reducible((first|apply pA|apply pB|apply pC|apply pD|apply pE|((first|apply pF|apply pG);decide +kernel));(conv=>lhs;simp only[go_sem, ibin, ishift])<;>rfl))
    refine CK_pure (new_spec c.w.toTabM l ⟨by omega, by omega⟩ hs) (by first | rfl | (simp only [go_sem, Lay.v]; done) | (simp only [go_sem, Lay.v] <;> rfl)) ?_
    rintro v h' ⟨_, hh3⟩
    obtain ⟨rfl, rfl⟩ := hh3 hg
    rw [hp]
    unfold Mi.h
    (with_reducible((first|apply WO2_finw|apply WO2_fina);(conv=>lhs;simp only[go_sem, ibin, ishift])<;>rfl))
    (repeat' with_reducible first |apply qA|apply qB|apply qC|apply qD|apply qE|apply qF|(apply qG;decide)|apply qH|apply qI|apply qJ|apply qK|((first|apply qL|apply qM|apply qN|apply qO|((first|apply qP|apply qQ);decide +kernel));(conv=>lhs;simp only[go_sem, ibin, ishift])<;>rfl)|((first|apply qR|apply qS);(conv=>lhs;simp only[go_sem])<;>rfl;rfl)|((first|apply qT|apply qU);(conv=>lhs;simp only[go_sem])<;>rfl;rfl)|apply qV|apply qW|apply qX|apply qY|apply qZ)
    (with_reducible((first|apply pA|apply pB|apply pC|apply pD|apply pE|((first|apply pF|apply pG);decide +kernel));(conv=>lhs;simp only[go_sem, ibin, ishift])<;>rfl))
    refine CK_pure (rnew_spec c.r l ⟨by omega, by omega⟩ hs) (by first | rfl | (simp only [go_sem, Lay.v]; done) | (simp only [go_sem, Lay.v] <;> rfl)) ?_
    rintro v h' ⟨rh0, rh1⟩
    obtain ⟨rfl, rfl⟩ := rh1 hg
    generalize Rm.new l = r0 at hS0
    have hv0 : r0.v = .agg [.fz 3 (r0.l.ns.map cN), .fz 2 (r0.l.es.map cD), .fz 2 (r0.sp.map cSp), .fz 3 (r0.td.map cTd), .fz 1 (r0.dn.map cI), .fz 3 (r0.ls.map cTd)] := rfl
    rw [hv0]
    (with_reducible((first|apply WO2_finw|apply WO2_fina);(conv=>lhs;simp only[go_sem, ibin, ishift])<;>rfl))
    (repeat' with_reducible first |apply qA|apply qB|apply qC|apply qD|apply qE|apply qF|(apply qG;decide)|apply qH|apply qI|apply qJ|apply qK|((first|apply qL|apply qM|apply qN|apply qO|((first|apply qP|apply qQ);decide +kernel));(conv=>lhs;simp only[go_sem, ibin, ishift])<;>rfl)|((first|apply qR|apply qS);(conv=>lhs;simp only[go_sem])<;>rfl;rfl)|((first|apply qT|apply qU);(conv=>lhs;simp only[go_sem])<;>rfl;rfl)|apply qV|apply qW|apply qX|apply qY|apply qZ)
    refine W2.wnil 11 4 rfl (by (conv => lhs; simp only [go_sem, ibin, ishift]) <;> with_reducible rfl) (by (conv => lhs; simp only [go_sem, ibin, ishift]) <;> with_reducible rfl) ?_
    have hF0 : Sim l p0 r0 0 := hS0
    refine W2_loopu (fun mm u g => ∃ (i n : Nat) (m : Mi) (r : Rm) (W : List Nt), i + mm = 120 ∧ Sim l m r i ∧ p0.run W = some m ∧ n = W.length ∧ n ≤ i ∧ u = [(11, .sl 4 8 0 n none), (12, .i .i64 i)] ∧ g = [(1, .obj (.fz 2 (m.es.map cD) :: ((m.w.map fun n => SV.p (PV.i .i64 n)) ++ [.sl 1 2 0 m.at_.length none, .sl 4 3 0 m.ds.length none]))), (2, .arr 1 (m.at_.map cI)), (3, .arr 4 (m.ds.map cMd)), (8, .arr 4 (W.map cNt))]) 120 ⟨0, 0, p0, r0, [], by omega, hS0, rfl, rfl, by omega, rfl, rfl⟩ rfl rfl ?_
    rintro mm u g ⟨i, n, m, rx, W, hi, hS, hrun, hn, hni, rfl, rfl⟩
    intro e1 h1 he1 hh1; simp only [egd, supE, hgd, supH, Nat.reduceEqDiff, Nat.reduceAdd, if_true, if_false, reduceIte] at he1 hh1; subst he1; subst hh1
    have hm := hS.one.ok
    have hw := hm.wl
    have hWn : W.take n = W := by rw [hn, List.take_length]
    by_cases hil : i < s.length ∧ i < 120
    · obtain ⟨hil, hi2⟩ := hil
      have hgx := List.getElem?_eq_getElem hil
      generalize s[i] = x at hgx
      have h0 : (0 : Int) ≤ (i : Int) := by omega
      have h1 : (i : Int) < (s.length : Int) := by omega
      have h2 : (i : Int) < 120 := by omega
      have d1 : decide ((i : Int) < (s.length : Int)) = true := decide_eq_true h1
      have d2 : decide ((i : Int) < 120) = true := decide_eq_true h2
      have wi1 := wS (show i < 9223372036854775807 by omega)
      have hq := (hS.apply x).2
      have hroom : (n + 1) * 32 ≤ room := by simp only [room]; omega
      (repeat' with_reducible first |apply qA|apply qB|apply qC|apply qD|apply qE|apply qF|(apply qG;decide)|apply qH|apply qI|apply qJ|apply qK|((first|apply qL|apply qM|apply qN|apply qO|((first|apply qP|apply qQ);decide +kernel));(conv=>lhs;simp only[go_sem, ibin, ishift, d1, d2, h1, h2, h0, hil, hgx, cNt])<;>rfl)|((first|apply qR|apply qS);(conv=>lhs;simp only[go_sem])<;>rfl;rfl)|((first|apply qT|apply qU);(conv=>lhs;simp only[go_sem])<;>rfl;rfl)|apply qV|apply qW|apply qX|apply qY|apply qZ)
      (with_reducible((first|apply pA|apply pB|apply pC|apply pD|apply pE|((first|apply pF|apply pG);decide +kernel));(conv=>lhs;simp only[go_sem, ibin, ishift, h1, h0, hil, hgx, cNt])<;>rfl))
      refine CK_call [1, 2, 3] (apply_spec c.w.toTabM m hm x) (by decide) (by simp) rfl rfl (by first | rfl | (simp only [go_sem, Mi.h, Nt.v]; done) | (simp only [go_sem, Mi.h, Nt.v] <;> rfl)) ?_
      rintro v h' ⟨rfl, rfl⟩
      by_cases he : (m.apply x).2 = 0
      · have hrun2 := run_snoc hrun he
        have ez : decide ((0 : Int) = 0) = true := by decide
        rw [he]
        generalize (m.apply x).1 = m2 at hrun2 hq
        unfold Mi.h
        (with_reducible((first|apply WO2_finw|apply WO2_fina);(conv=>lhs;simp only[go_sem, ibin, ishift, ez])<;>rfl))
        (repeat' with_reducible first |apply qA|apply qB|apply qC|apply qD|apply qE|apply qF|(apply qG;decide)|apply qH|apply qI|apply qJ|apply qK|((first|apply qL|apply qM|apply qN|apply qO|((first|apply qP|apply qQ);decide +kernel));(conv=>lhs;simp only[go_sem, ibin, ishift, h1, h0, hil, hgx, cNt, hroom, Nat.le_refl, hWn, ← hn, wi1])<;>rfl)|((first|apply qR|apply qS);(conv=>lhs;simp only[go_sem])<;>rfl;rfl)|((first|apply qT|apply qU);(conv=>lhs;simp only[go_sem])<;>rfl;rfl)|apply qV|apply qW|apply qX|apply qY|apply qZ)
        refine ⟨[0, 1, 2, 3, 4, 5, 6, 7, 10], by decide, rfl, ?_⟩
        exact ⟨120 - (i + 1), _, _, by omega, ⟨i + 1, n + 1, m2, _, W ++ [x], by omega, hq, hrun2, by rw [List.length_append, ← hn]; rfl, by omega, rfl, rfl⟩, rfl, (by rw [List.map_append]; first | rfl | ((conv => lhs; simp only [go_sem, ibin, ishift]) <;> rfl))⟩
      · have ez : decide ((m.apply x).2 = 0) = false := decide_eq_false he
        rw [apply_no he] at hq ⊢
        unfold Mi.h
        (with_reducible((first|apply WO2_finw|apply WO2_fina);(conv=>lhs;simp only[go_sem, ibin, ishift, ez])<;>rfl))
        (repeat' with_reducible first |apply qA|apply qB|apply qC|apply qD|apply qE|apply qF|(apply qG;decide)|apply qH|apply qI|apply qJ|apply qK|((first|apply qL|apply qM|apply qN|apply qO|((first|apply qP|apply qQ);decide +kernel));(conv=>lhs;simp only[go_sem, ibin, ishift, wi1])<;>rfl)|((first|apply qR|apply qS);(conv=>lhs;simp only[go_sem])<;>rfl;rfl)|((first|apply qT|apply qU);(conv=>lhs;simp only[go_sem])<;>rfl;rfl)|apply qV|apply qW|apply qX|apply qY|apply qZ)
        refine ⟨[0, 1, 2, 3, 4, 5, 6, 7, 8], by decide, rfl, ?_⟩
        exact ⟨120 - (i + 1), _, _, by omega, ⟨i + 1, n, m, _, W, by omega, hq, hrun, hn, by omega, rfl, rfl⟩, rfl, (by first | rfl | ((conv => lhs; simp only [go_sem, ibin, ishift]) <;> rfl))⟩
    have hdec : (decide (i < s.length) && decide ((i : Int) < 120)) = false := by
      by_cases h : i < s.length
      · rw [decide_eq_false (show ¬((i : Int) < 120) by omega)]; simp
      · rw [decide_eq_false h]; rfl
    subst hn
    ((repeat' with_reducible first |apply qA|apply qB|apply qC|apply qD|apply qE|apply qF|(apply qG;decide)|apply qH|apply qI|apply qJ|apply qK|apply qX|((first|apply qR|apply qS);(conv=>lhs;simp only[go_sem])<;>rfl;rfl)|((first|apply qT|apply qU);(conv=>lhs;simp only[go_sem])<;>rfl;rfl)|apply qZ|apply qY|apply qW);with_reducible((first|apply qL|apply qM|apply qN|apply qO|((first|apply qP|apply qQ);decide +kernel));(conv=>lhs;simp only[go_sem, ibin, ishift])<;>rfl))
    rw [hdec]
    refine W2.wfrz 8 rfl (by (conv => lhs; simp only [go_sem, ibin, ishift]) <;> with_reducible rfl) (by (conv => lhs; simp only [go_sem, ibin, ishift]) <;> with_reducible rfl) ?_
    (repeat' with_reducible first |apply qA|apply qB|apply qC|apply qD|apply qE|apply qF|(apply qG;decide)|apply qH|apply qI|apply qJ|apply qK|((first|apply qL|apply qM|apply qN|apply qO|((first|apply qP|apply qQ);decide +kernel));(conv=>lhs;simp only[go_sem, ibin, ishift])<;>rfl)|((first|apply qR|apply qS);(conv=>lhs;simp only[go_sem])<;>rfl;rfl)|((first|apply qT|apply qU);(conv=>lhs;simp only[go_sem])<;>rfl;rfl)|apply qV|apply qW|apply qX|apply qY|apply qZ)
    refine W2.wview [0, 1, 2, 3, 4, 5, 6, 7] (by decide) rfl (by (conv => lhs; simp only [go_sem, ibin, ishift]) <;> with_reducible rfl) (by (conv => lhs; simp only [go_sem, ibin, ishift]) <;> with_reducible rfl) ?_
    have hWl : W.length ≤ 120 := by omega
    refine W2_loopu (fun mm u g => ∃ (j : Nat) (q : Mi) (r : Rm), j + mm = W.length ∧ Sim l q r j ∧ q.run (W.drop j) = some m ∧ u = [(74, .i .i64 j)] ∧ g = [(4, .obj (.fz 2 (q.es.map cD) :: ((q.w.map fun n => SV.p (PV.i .i64 n)) ++ [.sl 1 5 0 q.at_.length none, .sl 4 6 0 q.ds.length none]))), (5, .arr 1 (q.at_.map cI)), (6, .arr 4 (q.ds.map cMd)), (7, .obj [.fz 3 (r.l.ns.map cN), .fz 2 (r.l.es.map cD), .fz 2 (r.sp.map cSp), .fz 3 (r.td.map cTd), .fz 1 (r.dn.map cI), .fz 3 (r.ls.map cTd)])]) W.length ⟨0, p0, r0, by omega, hF0, hrun, rfl, rfl⟩ rfl rfl ?_
    rintro mm u g ⟨j, q, r, hj, hS2, hrun2, rfl, rfl⟩
    intro e1 h1 he1 hh1; simp only [egd, supE, hgd, supH, Nat.reduceEqDiff, Nat.reduceAdd, if_true, if_false, reduceIte] at he1 hh1; subst he1; subst hh1
    have hzr : r.Sz := hS2.sz (by omega) ⟨by omega, by omega⟩
    have hm2 := hS2.one.ok
    by_cases hjW : j < W.length
    · have hjl : j < W.length := by omega
      have hg := List.getElem?_eq_getElem hjl
      have htk : W.take (j + 1) = W.take j ++ [W[j]] := by rw [List.take_add_one, List.getElem?_eq_getElem hjl]; rfl
      have hmem := List.getElem_mem hjl
      generalize W[j] = x at hg htk hmem
      have hd : W.drop j = x :: W.drop (j + 1) := by
        rw [List.drop_eq_getElem_cons hjl]
        congr 1
        exact Option.some.inj ((List.getElem?_eq_getElem hjl).symm.trans hg)
      rw [hd, Mi.run] at hrun2
      by_cases hc : (q.apply x).2 = 0
      rotate_left
      · rw [if_neg hc] at hrun2; cases hrun2
      rw [if_pos hc] at hrun2
      have hq := hS2.apply x
      have h0 : (0 : Int) ≤ (j : Int) := by omega
      have h1 : (j : Int) < (W.length : Int) := by omega
      have zj : decide (j < W.length) = true := decide_eq_true hjl
      have wj := wS (show j < 9223372036854775807 by omega)
      have ez : decide ((0 : Int) = 0) = true := by decide
      (repeat' with_reducible first |apply qA|apply qB|apply qC|apply qD|apply qE|apply qF|(apply qG;decide)|apply qH|apply qI|apply qJ|apply qK|((first|apply qL|apply qM|apply qN|apply qO|((first|apply qP|apply qQ);decide +kernel));(conv=>lhs;simp only[go_sem, ibin, ishift, zj, h1, h0, hjl, hg, cNt])<;>rfl)|((first|apply qR|apply qS);(conv=>lhs;simp only[go_sem])<;>rfl;rfl)|((first|apply qT|apply qU);(conv=>lhs;simp only[go_sem])<;>rfl;rfl)|apply qV|apply qW|apply qX|apply qY|apply qZ)
      (with_reducible((first|apply pA|apply pB|apply pC|apply pD|apply pE|((first|apply pF|apply pG);decide +kernel));(conv=>lhs;simp only[go_sem, ibin, ishift])<;>rfl))
      refine CK_call [4, 5, 6] (apply_spec c.w.toTabM q hm2 x) (by decide) (by simp) rfl rfl (by first | rfl | (simp only [go_sem, Mi.h, Nt.v]; done) | (simp only [go_sem, Mi.h, Nt.v] <;> rfl)) ?_
      rintro v h' ⟨rfl, rfl⟩
      rw [hc] at hq ⊢
      generalize (q.apply x).1 = q2 at hrun2 hq
      unfold Mi.h
      (with_reducible((first|apply WO2_finw|apply WO2_fina);(conv=>lhs;simp only[go_sem, ibin, ishift, ez])<;>rfl))
      (repeat' with_reducible first |apply qA|apply qB|apply qC|apply qD|apply qE|apply qF|(apply qG;decide)|apply qH|apply qI|apply qJ|apply qK|((first|apply qL|apply qM|apply qN|apply qO|((first|apply qP|apply qQ);decide +kernel));(conv=>lhs;simp only[go_sem, ibin, ishift])<;>rfl)|((first|apply qR|apply qS);(conv=>lhs;simp only[go_sem])<;>rfl;rfl)|((first|apply qT|apply qU);(conv=>lhs;simp only[go_sem])<;>rfl;rfl)|apply qV|apply qW|apply qX|apply qY|apply qZ)
      (with_reducible((first|apply pA|apply pB|apply pC|apply pD|apply pE|((first|apply pF|apply pG);decide +kernel));(conv=>lhs;simp only[go_sem, ibin, ishift])<;>rfl))
      refine CK_pure (rapply_spec c.r r hzr x) (by first | rfl | (simp only [go_sem, Rm.v, Nt.v]; done) | (simp only [go_sem, Rm.v, Nt.v] <;> rfl)) ?_
      rintro v h' ⟨rfl, rfl⟩
      generalize r.apply x = rq at hq
      obtain ⟨r2, e2⟩ := rq
      simp only at hq ⊢
      obtain ⟨_, hS3⟩ := hq
      have hv2 : r2.v = .agg [.fz 3 (r2.l.ns.map cN), .fz 2 (r2.l.es.map cD), .fz 2 (r2.sp.map cSp), .fz 3 (r2.td.map cTd), .fz 1 (r2.dn.map cI), .fz 3 (r2.ls.map cTd)] := rfl
      rw [hv2]
      (with_reducible((first|apply WO2_finw|apply WO2_fina);(conv=>lhs;simp only[go_sem, ibin, ishift])<;>rfl))
      (repeat' with_reducible first |apply qA|apply qB|apply qC|apply qD|apply qE|apply qF|(apply qG;decide)|apply qH|apply qI|apply qJ|apply qK|((first|apply qL|apply qM|apply qN|apply qO|((first|apply qP|apply qQ);decide +kernel));(conv=>lhs;simp only[go_sem, ibin, ishift, wj])<;>rfl)|((first|apply qR|apply qS);(conv=>lhs;simp only[go_sem])<;>rfl;rfl)|((first|apply qT|apply qU);(conv=>lhs;simp only[go_sem])<;>rfl;rfl)|apply qV|apply qW|apply qX|apply qY|apply qZ)
      refine ⟨[0, 1, 2, 3, 4, 5, 6, 7], by decide, rfl, ?_⟩
      exact ⟨W.length - (j + 1), _, _, by omega, ⟨j + 1, q2, r2, by omega, hS3, hrun2, rfl, rfl⟩, rfl, (by first | rfl | ((conv => lhs; simp only [go_sem, ibin, ishift]) <;> rfl))⟩
    have hje : j = W.length := by omega
    subst hje
    rw [List.drop_length] at hrun2
    have hqm : q = m := Option.some.inj hrun2
    subst hqm
    (repeat' with_reducible first |apply qA|apply qB|apply qC|apply qD|apply qE|apply qF|(apply qG;decide)|apply qH|apply qI|apply qJ|apply qK|((first|apply qL|apply qM|apply qN|apply qO|((first|apply qP|apply qQ);decide +kernel));(conv=>lhs;simp only[go_sem, ibin, ishift])<;>rfl)|((first|apply qR|apply qS);(conv=>lhs;simp only[go_sem])<;>rfl;rfl)|((first|apply qT|apply qU);(conv=>lhs;simp only[go_sem])<;>rfl;rfl)|apply qV|apply qW|apply qX|apply qY|apply qZ)
    (with_reducible((first|apply pA|apply pB|apply pC|apply pD|apply pE|((first|apply pF|apply pG);decide +kernel));(conv=>lhs;simp only[go_sem, ibin, ishift])<;>rfl))
    refine CK_call [1, 2, 3] (tells_spec c.w.toTabM c.r l q r W.length hS2 (by omega) ⟨by omega, by omega⟩) (by decide) (by simp) (by first | rfl | (simp only [go_sem, Rm.v]; done) | (simp only [go_sem, Rm.v] <;> rfl)) rfl (by first | rfl | (simp only [go_sem, Mi.h]; done) | (simp only [go_sem, Mi.h] <;> rfl)) ?_
    rintro v h' ⟨rfl, rfl⟩
    unfold Mi.h
    (with_reducible((first|apply pA|apply pB|apply pC|apply pD|apply pE|((first|apply pF|apply pG);decide +kernel));(conv=>lhs;simp only[go_sem, ibin, ishift])<;>rfl))
    refine CK_call [4, 5, 6] (tells_spec c.w.toTabM c.r l q r W.length hS2 (by omega) ⟨by omega, by omega⟩) (by decide) (by simp) (by first | rfl | (simp only [go_sem, Rm.v]; done) | (simp only [go_sem, Rm.v] <;> rfl)) rfl (by first | rfl | (simp only [go_sem, Mi.h]; done) | (simp only [go_sem, Mi.h] <;> rfl)) ?_
    rintro v h' ⟨rfl, rfl⟩
    unfold Mi.h
    (with_reducible((first|apply WO2_finw|apply WO2_fina);(conv=>lhs;simp only[go_sem, ibin, ishift])<;>rfl))
    (repeat' with_reducible first |apply qA|apply qB|apply qC|apply qD|apply qE|apply qF|(apply qG;decide)|apply qH|apply qI|apply qJ|apply qK|((first|apply qL|apply qM|apply qN|apply qO|((first|apply qP|apply qQ);decide +kernel));(conv=>lhs;simp only[go_sem, ibin, ishift])<;>rfl)|((first|apply qR|apply qS);(conv=>lhs;simp only[go_sem])<;>rfl;rfl)|((first|apply qT|apply qU);(conv=>lhs;simp only[go_sem])<;>rfl;rfl)|apply qV|apply qW|apply qX|apply qY|apply qZ)
    refine ⟨by first | exact .inr rfl | exact .inl rfl, _, _, (by (conv => lhs; simp only [go_sem, ibin, ishift]) <;> with_reducible rfl), (by (conv => lhs; simp only [go_sem, ibin, ishift]) <;> with_reducible rfl), ?_⟩
    refine ⟨[], by decide, rfl, ?_⟩
    rfl
end Go.Proofs.Ytjijhkmimjolhaa.Ab
