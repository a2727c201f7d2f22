/- Chapter 20: the document's plant hears. -/
import Derived.Test.YtpblhjaghkkdhaaY20q
namespace Go.Proofs.Ytpblhjaghkkdhaa.Ab
open Go
set_option linter.unusedVariables false
set_option linter.unusedSimpArgs false
variable {T : AT}
def mvS (t b : Int) (s : Sp) : Sp := if s.tote = t then ⟨s.tote, b⟩ else s
def notDev (d : Int) (x : Lt) : Bool := !decide (x.dev = d)
def Lt.ob : Option (Nat × Lt) → Lt × Bool
  | some (_, s) => (s, true)
  | none => (⟨0, 0, 0⟩, false)
theorem Lt.ov_eq (o : Option (Nat × Lt)) : Lt.ov o = .tup [.agg [.i .i64 (Lt.ob o).1.dev, .i .u16 (Lt.ob o).1.seq, .i .u16 (Lt.ob o).1.tote], .b (Lt.ob o).2] := by
  cases o <;> rfl
def Rp.move (r : Rp) (x : Lt) (did : Bool) (e : Ed) (t : Te) : Rp × Te × Bool :=
  if (did = true ∧ x.seq = t.seq) ∧ x.tote = t.a then (r, ⟨2, t.dev, t.seq, t.a, 0⟩, true)
  else if did = true ∧ dist x.seq t.seq ≤ 0 then (r, Te.nil, false)
  else if t.a = 0 ∨ r.tote e.a ≠ t.a then (r, ⟨3, t.dev, t.seq, t.a, 1⟩, true)
  else if r.tote e.b > 0 then (r, ⟨3, t.dev, t.seq, t.a, 2⟩, true)
  else (⟨r.l, r.sp.map (mvS t.a e.b), r.bk, ⟨t.dev, t.seq, t.a⟩ :: r.ls.filter (notDev t.dev), IntKind.i64.wrap (r.mv + 1)⟩, ⟨2, t.dev, t.seq, t.a, 0⟩, true)
def Rp.hear (r : Rp) (t : Te) : Rp × Te × Bool :=
  if r.works t.dev = false then (r, Te.nil, false)
  else if t.k = 6 then (r, ⟨7, t.dev, t.seq, (Lt.ob (findX Lt.dev t.dev r.ls 0)).1.seq, (Lt.ob (findX Lt.dev t.dev r.ls 0)).1.tote⟩, true)
  else if t.k = 1 then (match r.l.es[(t.dev - 1).toNat]? with | some e => r.move (Lt.ob (findX Lt.dev t.dev r.ls 0)).1 (Lt.ob (findX Lt.dev t.dev r.ls 0)).2 e t | none => (r, Te.nil, false))
  else (r, Te.nil, false)
set_option maxHeartbeats 2000000 in
theorem rhear_spec (c : TabR20 T) (r : Rp) (hz : r.Sz) (hq : ∀ x ∈ r.ls, 0 ≤ x.seq ∧ x.seq < 65536) (t : Te) (ht : t.Ok) : Ret2 T 0 i_stillageref20_Hear [r.v, t.v] [] (fun v h' => v = .tup [(r.hear t).1.v, (r.hear t).2.1.v, .b (r.hear t).2.2] ∧ h' = []) := by
  refine Ret2_fnv c.hear rfl rfl ?_
  have hv : r.v = .agg [.fz 3 (r.l.ns.map cN), .fz 2 (r.l.es.map cD), .fz 2 (r.sp.map cSp), .fz 1 (r.bk.map cI), .fz 3 (r.ls.map cLt), .i .i64 r.mv] := rfl
  rw [hv]
  unfold Te.v Rp.hear
  have ht1 := ht.dev
  have ht2 := ht.k
  have ht3 := ht.a
  have wd : IntKind.i64.wrap t.dev = t.dev := wi _ (by omega) (by omega)
  have wk : IntKind.i64.wrap t.k = t.k := wi _ (by omega) (by omega)
  have wa : IntKind.i64.wrap t.a = t.a := wi _ (by omega) (by omega)
  (repeat' with_reducible first |apply qA|apply qB|apply qC|apply qD|apply qE|apply qF|(apply qG;decide)|apply qH|apply qI|apply qJ|apply qK|((first|apply qL|apply qM|apply qN|apply qO|((first|apply qP|apply qQ);decide +kernel));(conv=>lhs;simp only[go_sem, ibin, ishift, wd])<;>rfl)|((first|apply qR|apply qS);(conv=>lhs;simp only[go_sem])<;>rfl;rfl)|((first|apply qT|apply qU);(conv=>lhs;simp only[go_sem])<;>rfl;rfl)|apply qV|apply qW|apply qX|apply qY|apply qZ)
  (with_reducible((first|apply pA|apply pB|apply pC|apply pD|apply pE|((first|apply pF|apply pG);decide +kernel));(conv=>lhs;simp only[go_sem, ibin, ishift])<;>rfl))
  refine CK_pure (rworks_spec c r hz t.dev) (by first | rfl | (simp only [go_sem, Rp.v]; done) | (simp only [go_sem, Rp.v] <;> rfl)) ?_
  rintro v h' ⟨rfl, rfl⟩
  cases hw : r.works t.dev with
  | false =>
    (with_reducible((first|apply WO2_finw|apply WO2_fina);(conv=>lhs;simp only[go_sem, ibin, ishift])<;>rfl))
    rw [if_pos rfl, hv]
    (repeat' with_reducible first |apply qA|apply qB|apply qC|apply qD|apply qE|apply qF|(apply qG;decide)|apply qH|apply qI|apply qJ|apply qK|((first|apply qL|apply qM|apply qN|apply qO|((first|apply qP|apply qQ);decide +kernel));(conv=>lhs;simp only[go_sem, ibin, ishift])<;>rfl)|((first|apply qR|apply qS);(conv=>lhs;simp only[go_sem])<;>rfl;rfl)|((first|apply qT|apply qU);(conv=>lhs;simp only[go_sem])<;>rfl;rfl)|apply qV|apply qW|apply qX|apply qY|apply qZ)
    refine ⟨by first | exact .inr rfl | exact .inl rfl, _, _, (by (conv => lhs; simp only [go_sem, ibin, ishift]) <;> with_reducible rfl), (by (conv => lhs; simp only [go_sem, ibin, ishift]) <;> with_reducible rfl), ?_⟩
    refine ⟨[], by decide, rfl, ?_⟩
    exact ⟨rfl, rfl⟩
  | true =>
  have hin : 1 ≤ t.dev ∧ t.dev ≤ r.l.es.length := by
    unfold Rp.works at hw
    split at hw
    · cases hw
    · exact of_decide_eq_true hw
  rw [if_neg (by decide)]
  (with_reducible((first|apply WO2_finw|apply WO2_fina);(conv=>lhs;simp only[go_sem, ibin, ishift])<;>rfl))
  (repeat' with_reducible first |apply qA|apply qB|apply qC|apply qD|apply qE|apply qF|(apply qG;decide)|apply qH|apply qI|apply qJ|apply qK|((first|apply qL|apply qM|apply qN|apply qO|((first|apply qP|apply qQ);decide +kernel));(conv=>lhs;simp only[go_sem, ibin, ishift])<;>rfl)|((first|apply qR|apply qS);(conv=>lhs;simp only[go_sem])<;>rfl;rfl)|((first|apply qT|apply qU);(conv=>lhs;simp only[go_sem])<;>rfl;rfl)|apply qV|apply qW|apply qX|apply qY|apply qZ)
  (with_reducible((first|apply pA|apply pB|apply pC|apply pD|apply pE|((first|apply pF|apply pG);decide +kernel));(conv=>lhs;simp only[go_sem, ibin, ishift])<;>rfl))
  refine CK_pure (rlastOf_spec c r hz t.dev) (by first | rfl | (simp only [go_sem, Rp.v]; done) | (simp only [go_sem, Rp.v] <;> rfl)) ?_
  rintro v h' ⟨rfl, rfl⟩
  have hob : (Lt.ob (findX Lt.dev t.dev r.ls 0)).2 = true → 0 ≤ (Lt.ob (findX Lt.dev t.dev r.ls 0)).1.seq ∧ (Lt.ob (findX Lt.dev t.dev r.ls 0)).1.seq < 65536 := by
    cases hf : findX Lt.dev t.dev r.ls 0 with
    | none => intro h; cases h
    | some p =>
      obtain ⟨i, x⟩ := p
      intro _
      exact hq x (findX_mem hf).1
  unfold Rp.lastOf
  rw [Lt.ov_eq]
  generalize Lt.ob (findX Lt.dev t.dev r.ls 0) = q at hob
  obtain ⟨x, did⟩ := q
  simp only at hob ⊢
  (with_reducible((first|apply WO2_finw|apply WO2_fina);(conv=>lhs;simp only[go_sem, ibin, ishift])<;>rfl))
  by_cases k6 : t.k = 6
  · have z6 : decide (t.k = 6) = true := decide_eq_true k6
    rw [if_pos k6]
    simp only
    rw [hv]
    (repeat' with_reducible first |apply qA|apply qB|apply qC|apply qD|apply qE|apply qF|(apply qG;decide)|apply qH|apply qI|apply qJ|apply qK|((first|apply qL|apply qM|apply qN|apply qO|((first|apply qP|apply qQ);decide +kernel));(conv=>lhs;simp only[go_sem, ibin, ishift, wk, z6])<;>rfl)|((first|apply qR|apply qS);(conv=>lhs;simp only[go_sem])<;>rfl;rfl)|((first|apply qT|apply qU);(conv=>lhs;simp only[go_sem])<;>rfl;rfl)|apply qV|apply qW|apply qX|apply qY|apply qZ)
    (repeat' with_reducible first |apply qA|apply qB|apply qC|apply qD|apply qE|apply qF|(apply qG;decide)|apply qH|apply qI|apply qJ|apply qK|apply qX|((first|apply qR|apply qS);(conv=>lhs;simp only[go_sem])<;>rfl;rfl)|((first|apply qT|apply qU);(conv=>lhs;simp only[go_sem])<;>rfl;rfl)|apply qZ|apply qY|apply qW)
    (with_reducible first | apply W2_sregH [1, 4] [false, false, true, false, true, false, true, false, true, false, false, false] | apply W2_regH [1, 4] [false, false, true, false, true, false, true, false, true, false, false, false])
    · decide
    · decide
    · rfl
    ((conv => lhs; simp only [go_sem, ibin, ishift]) <;> with_reducible rfl)
    refine EH_go ?_
    (repeat' with_reducible first |apply qA|apply qB|apply qC|apply qD|apply qE|apply qF|(apply qG;decide)|apply qH|apply qI|apply qJ|apply qK|((first|apply qL|apply qM|apply qN|apply qO|((first|apply qP|apply qQ);decide +kernel));(conv=>lhs;simp only[go_sem, ibin, ishift])<;>rfl)|((first|apply qR|apply qS);(conv=>lhs;simp only[go_sem])<;>rfl;rfl)|((first|apply qT|apply qU);(conv=>lhs;simp only[go_sem])<;>rfl;rfl)|apply qV|apply qW|apply qX|apply qY|apply qZ)
    refine ⟨by first | exact .inr rfl | exact .inl rfl, _, _, (by (conv => lhs; simp only [go_sem, ibin, ishift]) <;> with_reducible rfl), (by (conv => lhs; simp only [go_sem, ibin, ishift]) <;> with_reducible rfl), ?_⟩
    refine ⟨[], by decide, rfl, ?_⟩
    exact ⟨rfl, rfl⟩
  have z6 : decide (t.k = 6) = false := decide_eq_false k6
  rw [if_neg k6]
  by_cases k1 : t.k = 1
  rotate_left
  · have z1 : decide (t.k = 1) = false := decide_eq_false k1
    rw [if_neg k1]
    simp only
    rw [hv]
    (repeat' with_reducible first |apply qA|apply qB|apply qC|apply qD|apply qE|apply qF|(apply qG;decide)|apply qH|apply qI|apply qJ|apply qK|((first|apply qL|apply qM|apply qN|apply qO|((first|apply qP|apply qQ);decide +kernel));(conv=>lhs;simp only[go_sem, ibin, ishift, wk, z6, z1])<;>rfl)|((first|apply qR|apply qS);(conv=>lhs;simp only[go_sem])<;>rfl;rfl)|((first|apply qT|apply qU);(conv=>lhs;simp only[go_sem])<;>rfl;rfl)|apply qV|apply qW|apply qX|apply qY|apply qZ)
    refine ⟨by first | exact .inr rfl | exact .inl rfl, _, _, (by (conv => lhs; simp only [go_sem, ibin, ishift]) <;> with_reducible rfl), (by (conv => lhs; simp only [go_sem, ibin, ishift]) <;> with_reducible rfl), ?_⟩
    refine ⟨[], by decide, rfl, ?_⟩
    exact ⟨rfl, rfl⟩
  have z1 : decide (t.k = 1) = true := decide_eq_true k1
  rw [if_pos k1]
  have hel := hz.es
  have wd1 : IntKind.i64.wrap (t.dev - 1) = t.dev - 1 := wi _ (by omega) (by omega)
  have r0 : (0 : Int) ≤ t.dev - 1 := by omega
  have r1 : t.dev - 1 < (r.l.es.length : Int) := by omega
  have r2 : (t.dev - 1).toNat < r.l.es.length := by omega
  have he := List.getElem?_eq_getElem r2
  generalize r.l.es[(t.dev - 1).toNat] = f at he
  simp only [he]
  unfold Rp.move
  by_cases c1 : (did = true ∧ x.seq = t.seq) ∧ x.tote = t.a
  · rw [if_pos c1]
    obtain ⟨⟨rfl, c2⟩, c3⟩ := c1
    have y2 : decide (x.seq = t.seq) = true := decide_eq_true c2
    have y3 : decide (x.tote = t.a) = true := decide_eq_true c3
    simp only
    rw [hv]
    (repeat' with_reducible first |apply qA|apply qB|apply qC|apply qD|apply qE|apply qF|(apply qG;decide)|apply qH|apply qI|apply qJ|apply qK|((first|apply qL|apply qM|apply qN|apply qO|((first|apply qP|apply qQ);decide +kernel));(conv=>lhs;simp only[go_sem, ibin, ishift, wk, z6, z1, y2, y3])<;>rfl)|((first|apply qR|apply qS);(conv=>lhs;simp only[go_sem])<;>rfl;rfl)|((first|apply qT|apply qU);(conv=>lhs;simp only[go_sem])<;>rfl;rfl)|apply qV|apply qW|apply qX|apply qY|apply qZ)
    (repeat' with_reducible first |apply qA|apply qB|apply qC|apply qD|apply qE|apply qF|(apply qG;decide)|apply qH|apply qI|apply qJ|apply qK|apply qX|((first|apply qR|apply qS);(conv=>lhs;simp only[go_sem])<;>rfl;rfl)|((first|apply qT|apply qU);(conv=>lhs;simp only[go_sem])<;>rfl;rfl)|apply qZ|apply qY|apply qW)
    (with_reducible first | apply W2_sregH [5] [false, true, false, false] | apply W2_regH [5] [false, true, false, false])
    · decide
    · decide
    · rfl
    ((conv => lhs; simp only [go_sem, ibin, ishift]) <;> with_reducible rfl)
    refine EH_go ?_
    (repeat' with_reducible first |apply qA|apply qB|apply qC|apply qD|apply qE|apply qF|(apply qG;decide)|apply qH|apply qI|apply qJ|apply qK|((first|apply qL|apply qM|apply qN|apply qO|((first|apply qP|apply qQ);decide +kernel));(conv=>lhs;simp only[go_sem, ibin, ishift])<;>rfl)|((first|apply qR|apply qS);(conv=>lhs;simp only[go_sem])<;>rfl;rfl)|((first|apply qT|apply qU);(conv=>lhs;simp only[go_sem])<;>rfl;rfl)|apply qV|apply qW|apply qX|apply qY|apply qZ)
    refine ⟨by first | exact .inr rfl | exact .inl rfl, _, _, (by (conv => lhs; simp only [go_sem, ibin, ishift]) <;> with_reducible rfl), (by (conv => lhs; simp only [go_sem, ibin, ishift]) <;> with_reducible rfl), ?_⟩
    refine ⟨[], by decide, rfl, ?_⟩
    exact ⟨rfl, rfl⟩
  rw [if_neg c1]
  have y1 : did = true → (decide (x.seq = t.seq) && decide (x.tote = t.a)) = false := fun hd => by
    rw [← Bool.not_eq_true]; intro h; simp only [Bool.and_eq_true, decide_eq_true_eq] at h; exact c1 ⟨⟨hd, h.1⟩, h.2⟩
  by_cases c4 : did = true ∧ dist x.seq t.seq ≤ 0
  · rw [if_pos c4]
    obtain ⟨rfl, c5⟩ := c4
    have y5 : decide (dist x.seq t.seq ≤ 0) = true := decide_eq_true c5
    simp only
    rw [hv]
    (repeat' with_reducible first |apply qA|apply qB|apply qC|apply qD|apply qE|apply qF|(apply qG;decide)|apply qH|apply qI|apply qJ|apply qK|((first|apply qL|apply qM|apply qN|apply qO|((first|apply qP|apply qQ);decide +kernel));(conv=>lhs;simp only[go_sem, ibin, ishift, wk, z6, z1])<;>rfl)|((first|apply qR|apply qS);(conv=>lhs;simp only[go_sem])<;>rfl;rfl)|((first|apply qT|apply qU);(conv=>lhs;simp only[go_sem])<;>rfl;rfl)|apply qV|apply qW|apply qX|apply qY|apply qZ)
    rw [y1 rfl]
    (repeat' with_reducible first |apply qA|apply qB|apply qC|apply qD|apply qE|apply qF|(apply qG;decide)|apply qH|apply qI|apply qJ|apply qK|((first|apply qL|apply qM|apply qN|apply qO|((first|apply qP|apply qQ);decide +kernel));(conv=>lhs;simp only[go_sem, ibin, ishift])<;>rfl)|((first|apply qR|apply qS);(conv=>lhs;simp only[go_sem])<;>rfl;rfl)|((first|apply qT|apply qU);(conv=>lhs;simp only[go_sem])<;>rfl;rfl)|apply qV|apply qW|apply qX|apply qY|apply qZ)
    (with_reducible((first|apply pA|apply pB|apply pC|apply pD|apply pE|((first|apply pF|apply pG);decide +kernel));(conv=>lhs;simp only[go_sem, ibin, ishift])<;>rfl))
    refine CK_pure (rdist_spec c x.seq t.seq (hob rfl) ht.seq) rfl ?_
    rintro v h' ⟨rfl, rfl⟩
    (with_reducible((first|apply WO2_finw|apply WO2_fina);(conv=>lhs;simp only[go_sem, ibin, ishift, y5])<;>rfl))
    (repeat' with_reducible first |apply qA|apply qB|apply qC|apply qD|apply qE|apply qF|(apply qG;decide)|apply qH|apply qI|apply qJ|apply qK|((first|apply qL|apply qM|apply qN|apply qO|((first|apply qP|apply qQ);decide +kernel));(conv=>lhs;simp only[go_sem, ibin, ishift])<;>rfl)|((first|apply qR|apply qS);(conv=>lhs;simp only[go_sem])<;>rfl;rfl)|((first|apply qT|apply qU);(conv=>lhs;simp only[go_sem])<;>rfl;rfl)|apply qV|apply qW|apply qX|apply qY|apply qZ)
    refine ⟨by first | exact .inr rfl | exact .inl rfl, _, _, (by (conv => lhs; simp only [go_sem, ibin, ishift]) <;> with_reducible rfl), (by (conv => lhs; simp only [go_sem, ibin, ishift]) <;> with_reducible rfl), ?_⟩
    refine ⟨[], by decide, rfl, ?_⟩
    exact ⟨rfl, rfl⟩
  rw [if_neg c4]
  have c5 : did = false ∨ (did = true ∧ decide (dist x.seq t.seq ≤ 0) = false) := by
    cases did with
    | false => exact .inl rfl
    | true => exact .inr ⟨rfl, decide_eq_false fun h => c4 ⟨rfl, h⟩⟩
  rcases c5 with rfl | ⟨rfl, c6⟩
  case' inl =>
    (repeat' with_reducible first |apply qA|apply qB|apply qC|apply qD|apply qE|apply qF|(apply qG;decide)|apply qH|apply qI|apply qJ|apply qK|((first|apply qL|apply qM|apply qN|apply qO|((first|apply qP|apply qQ);decide +kernel));(conv=>lhs;simp only[go_sem, ibin, ishift, wk, z6, z1])<;>rfl)|((first|apply qR|apply qS);(conv=>lhs;simp only[go_sem])<;>rfl;rfl)|((first|apply qT|apply qU);(conv=>lhs;simp only[go_sem])<;>rfl;rfl)|apply qV|apply qW|apply qX|apply qY|apply qZ)
  case' inr =>
    (repeat' with_reducible first |apply qA|apply qB|apply qC|apply qD|apply qE|apply qF|(apply qG;decide)|apply qH|apply qI|apply qJ|apply qK|((first|apply qL|apply qM|apply qN|apply qO|((first|apply qP|apply qQ);decide +kernel));(conv=>lhs;simp only[go_sem, ibin, ishift, wk, z6, z1])<;>rfl)|((first|apply qR|apply qS);(conv=>lhs;simp only[go_sem])<;>rfl;rfl)|((first|apply qT|apply qU);(conv=>lhs;simp only[go_sem])<;>rfl;rfl)|apply qV|apply qW|apply qX|apply qY|apply qZ)
    rw [y1 rfl]
    (repeat' with_reducible first |apply qA|apply qB|apply qC|apply qD|apply qE|apply qF|(apply qG;decide)|apply qH|apply qI|apply qJ|apply qK|((first|apply qL|apply qM|apply qN|apply qO|((first|apply qP|apply qQ);decide +kernel));(conv=>lhs;simp only[go_sem, ibin, ishift])<;>rfl)|((first|apply qR|apply qS);(conv=>lhs;simp only[go_sem])<;>rfl;rfl)|((first|apply qT|apply qU);(conv=>lhs;simp only[go_sem])<;>rfl;rfl)|apply qV|apply qW|apply qX|apply qY|apply qZ)
    (with_reducible((first|apply pA|apply pB|apply pC|apply pD|apply pE|((first|apply pF|apply pG);decide +kernel));(conv=>lhs;simp only[go_sem, ibin, ishift])<;>rfl))
    refine CK_pure (rdist_spec c x.seq t.seq (hob rfl) ht.seq) rfl ?_
    rintro v h' ⟨rfl, rfl⟩
    (with_reducible((first|apply WO2_finw|apply WO2_fina);(conv=>lhs;simp only[go_sem, ibin, ishift, c6])<;>rfl))
    (repeat' with_reducible first |apply qA|apply qB|apply qC|apply qD|apply qE|apply qF|(apply qG;decide)|apply qH|apply qI|apply qJ|apply qK|((first|apply qL|apply qM|apply qN|apply qO|((first|apply qP|apply qQ);decide +kernel));(conv=>lhs;simp only[go_sem, ibin, ishift])<;>rfl)|((first|apply qR|apply qS);(conv=>lhs;simp only[go_sem])<;>rfl;rfl)|((first|apply qT|apply qU);(conv=>lhs;simp only[go_sem])<;>rfl;rfl)|apply qV|apply qW|apply qX|apply qY|apply qZ)
  all_goals
    (repeat' with_reducible first |apply qA|apply qB|apply qC|apply qD|apply qE|apply qF|(apply qG;decide)|apply qH|apply qI|apply qJ|apply qK|((first|apply qL|apply qM|apply qN|apply qO|((first|apply qP|apply qQ);decide +kernel));(conv=>lhs;simp only[go_sem, ibin, ishift, wd1, r0, r1, r2, he, cD])<;>rfl)|((first|apply qR|apply qS);(conv=>lhs;simp only[go_sem])<;>rfl;rfl)|((first|apply qT|apply qU);(conv=>lhs;simp only[go_sem])<;>rfl;rfl)|apply qV|apply qW|apply qX|apply qY|apply qZ)
    (repeat' with_reducible first |apply qA|apply qB|apply qC|apply qD|apply qE|apply qF|(apply qG;decide)|apply qH|apply qI|apply qJ|apply qK|apply qX|((first|apply qR|apply qS);(conv=>lhs;simp only[go_sem])<;>rfl;rfl)|((first|apply qT|apply qU);(conv=>lhs;simp only[go_sem])<;>rfl;rfl)|apply qZ|apply qY|apply qW)
    by_cases c7 : t.a = 0
    · have z7 : decide (t.a = 0) = true := decide_eq_true c7
      rw [if_pos (.inl c7)]
      simp only
      rw [hv]
      (with_reducible first | apply W2_sregH [1] [false, false, false, false, false, false, false, false, false, true, false] | apply W2_regH [1] [false, false, false, false, false, false, false, false, false, true, false])
      · decide
      · decide
      · rfl
      ((conv => lhs; simp only [go_sem, ibin, ishift, z7]) <;> with_reducible rfl)
      refine EH_go ?_
      (repeat' with_reducible first |apply qA|apply qB|apply qC|apply qD|apply qE|apply qF|(apply qG;decide)|apply qH|apply qI|apply qJ|apply qK|((first|apply qL|apply qM|apply qN|apply qO|((first|apply qP|apply qQ);decide +kernel));(conv=>lhs;simp only[go_sem, ibin, ishift])<;>rfl)|((first|apply qR|apply qS);(conv=>lhs;simp only[go_sem])<;>rfl;rfl)|((first|apply qT|apply qU);(conv=>lhs;simp only[go_sem])<;>rfl;rfl)|apply qV|apply qW|apply qX|apply qY|apply qZ)
      (repeat' with_reducible first |apply qA|apply qB|apply qC|apply qD|apply qE|apply qF|(apply qG;decide)|apply qH|apply qI|apply qJ|apply qK|apply qX|((first|apply qR|apply qS);(conv=>lhs;simp only[go_sem])<;>rfl;rfl)|((first|apply qT|apply qU);(conv=>lhs;simp only[go_sem])<;>rfl;rfl)|apply qZ|apply qY|apply qW)
      (with_reducible first | apply W2_sregH [1] [false, false, true, false, true, false, true, false, false, false] | apply W2_regH [1] [false, false, true, false, true, false, true, false, false, false])
      · decide
      · decide
      · rfl
      ((conv => lhs; simp only [go_sem, ibin, ishift]) <;> with_reducible rfl)
      refine EH_go ?_
      (repeat' with_reducible first |apply qA|apply qB|apply qC|apply qD|apply qE|apply qF|(apply qG;decide)|apply qH|apply qI|apply qJ|apply qK|((first|apply qL|apply qM|apply qN|apply qO|((first|apply qP|apply qQ);decide +kernel));(conv=>lhs;simp only[go_sem, ibin, ishift])<;>rfl)|((first|apply qR|apply qS);(conv=>lhs;simp only[go_sem])<;>rfl;rfl)|((first|apply qT|apply qU);(conv=>lhs;simp only[go_sem])<;>rfl;rfl)|apply qV|apply qW|apply qX|apply qY|apply qZ)
      refine ⟨by first | exact .inr rfl | exact .inl rfl, _, _, (by (conv => lhs; simp only [go_sem, ibin, ishift]) <;> with_reducible rfl), (by (conv => lhs; simp only [go_sem, ibin, ishift]) <;> with_reducible rfl), ?_⟩
      refine ⟨[], by decide, rfl, ?_⟩
      exact ⟨rfl, rfl⟩
    have z7 : decide (t.a = 0) = false := decide_eq_false c7
    by_cases c8 : r.tote f.a = t.a
    rotate_left
    · have z8 : decide (r.tote f.a = t.a) = false := decide_eq_false c8
      rw [if_pos (.inr c8)]
      simp only
      rw [hv]
      (with_reducible first | apply W2_sregH [1] [false, false, false, false, false, false, false, false, false, true, false] | apply W2_regH [1] [false, false, false, false, false, false, false, false, false, true, false])
      · decide
      · decide
      · rfl
      ((conv => lhs; simp only [go_sem, ibin, ishift, z7]) <;> with_reducible rfl)
      refine EH_pure (rat__spec c r hz f.a) (by first | rfl | (simp only [go_sem, Rp.v]; done) | (simp only [go_sem, Rp.v] <;> rfl)) ?_
      rintro v h' ⟨rfl, rfl⟩
      (with_reducible apply WOH_go (by decide); ((conv => lhs; simp only [go_sem, ibin, ishift, wa, z8]) <;> with_reducible rfl))
      refine EH_go ?_
      (repeat' with_reducible first |apply qA|apply qB|apply qC|apply qD|apply qE|apply qF|(apply qG;decide)|apply qH|apply qI|apply qJ|apply qK|((first|apply qL|apply qM|apply qN|apply qO|((first|apply qP|apply qQ);decide +kernel));(conv=>lhs;simp only[go_sem, ibin, ishift])<;>rfl)|((first|apply qR|apply qS);(conv=>lhs;simp only[go_sem])<;>rfl;rfl)|((first|apply qT|apply qU);(conv=>lhs;simp only[go_sem])<;>rfl;rfl)|apply qV|apply qW|apply qX|apply qY|apply qZ)
      (repeat' with_reducible first |apply qA|apply qB|apply qC|apply qD|apply qE|apply qF|(apply qG;decide)|apply qH|apply qI|apply qJ|apply qK|apply qX|((first|apply qR|apply qS);(conv=>lhs;simp only[go_sem])<;>rfl;rfl)|((first|apply qT|apply qU);(conv=>lhs;simp only[go_sem])<;>rfl;rfl)|apply qZ|apply qY|apply qW)
      (with_reducible first | apply W2_sregH [1] [false, false, true, false, true, false, true, false, false, false] | apply W2_regH [1] [false, false, true, false, true, false, true, false, false, false])
      · decide
      · decide
      · rfl
      ((conv => lhs; simp only [go_sem, ibin, ishift]) <;> with_reducible rfl)
      refine EH_go ?_
      (repeat' with_reducible first |apply qA|apply qB|apply qC|apply qD|apply qE|apply qF|(apply qG;decide)|apply qH|apply qI|apply qJ|apply qK|((first|apply qL|apply qM|apply qN|apply qO|((first|apply qP|apply qQ);decide +kernel));(conv=>lhs;simp only[go_sem, ibin, ishift])<;>rfl)|((first|apply qR|apply qS);(conv=>lhs;simp only[go_sem])<;>rfl;rfl)|((first|apply qT|apply qU);(conv=>lhs;simp only[go_sem])<;>rfl;rfl)|apply qV|apply qW|apply qX|apply qY|apply qZ)
      refine ⟨by first | exact .inr rfl | exact .inl rfl, _, _, (by (conv => lhs; simp only [go_sem, ibin, ishift]) <;> with_reducible rfl), (by (conv => lhs; simp only [go_sem, ibin, ishift]) <;> with_reducible rfl), ?_⟩
      refine ⟨[], by decide, rfl, ?_⟩
      exact ⟨rfl, rfl⟩
    have z8 : decide (r.tote f.a = t.a) = true := decide_eq_true c8
    rw [if_neg (fun h => h.elim c7 (fun h => h c8))]
    (with_reducible first | apply W2_sregH [1] [false, false, false, false, false, false, false, false, false, true, false] | apply W2_regH [1] [false, false, false, false, false, false, false, false, false, true, false])
    · decide
    · decide
    · rfl
    ((conv => lhs; simp only [go_sem, ibin, ishift, z7]) <;> with_reducible rfl)
    refine EH_pure (rat__spec c r hz f.a) (by first | rfl | (simp only [go_sem, Rp.v]; done) | (simp only [go_sem, Rp.v] <;> rfl)) ?_
    rintro v h' ⟨rfl, rfl⟩
    (with_reducible apply WOH_go (by decide); ((conv => lhs; simp only [go_sem, ibin, ishift, wa, z8]) <;> with_reducible rfl))
    refine EH_go ?_
    (repeat' with_reducible first |apply qA|apply qB|apply qC|apply qD|apply qE|apply qF|(apply qG;decide)|apply qH|apply qI|apply qJ|apply qK|((first|apply qL|apply qM|apply qN|apply qO|((first|apply qP|apply qQ);decide +kernel));(conv=>lhs;simp only[go_sem, ibin, ishift])<;>rfl)|((first|apply qR|apply qS);(conv=>lhs;simp only[go_sem])<;>rfl;rfl)|((first|apply qT|apply qU);(conv=>lhs;simp only[go_sem])<;>rfl;rfl)|apply qV|apply qW|apply qX|apply qY|apply qZ)
    (with_reducible((first|apply pA|apply pB|apply pC|apply pD|apply pE|((first|apply pF|apply pG);decide +kernel));(conv=>lhs;simp only[go_sem, ibin, ishift])<;>rfl))
    refine CK_pure (rat__spec c r hz f.b) (by first | rfl | (simp only [go_sem, Rp.v]; done) | (simp only [go_sem, Rp.v] <;> rfl)) ?_
    rintro v h' ⟨rfl, rfl⟩
    by_cases c9 : r.tote f.b > 0
    · have z9 : decide (r.tote f.b > 0) = true := decide_eq_true c9
      rw [if_pos c9]
      simp only
      rw [hv]
      (with_reducible((first|apply WO2_finw|apply WO2_fina);(conv=>lhs;simp only[go_sem, ibin, ishift, z9])<;>rfl))
      (repeat' with_reducible first |apply qA|apply qB|apply qC|apply qD|apply qE|apply qF|(apply qG;decide)|apply qH|apply qI|apply qJ|apply qK|apply qX|((first|apply qR|apply qS);(conv=>lhs;simp only[go_sem])<;>rfl;rfl)|((first|apply qT|apply qU);(conv=>lhs;simp only[go_sem])<;>rfl;rfl)|apply qZ|apply qY|apply qW)
      (with_reducible first | apply W2_sregH [1] [false, false, true, false, true, false, true, false, false, false] | apply W2_regH [1] [false, false, true, false, true, false, true, false, false, false])
      · decide
      · decide
      · rfl
      ((conv => lhs; simp only [go_sem, ibin, ishift]) <;> with_reducible rfl)
      refine EH_go ?_
      (repeat' with_reducible first |apply qA|apply qB|apply qC|apply qD|apply qE|apply qF|(apply qG;decide)|apply qH|apply qI|apply qJ|apply qK|((first|apply qL|apply qM|apply qN|apply qO|((first|apply qP|apply qQ);decide +kernel));(conv=>lhs;simp only[go_sem, ibin, ishift])<;>rfl)|((first|apply qR|apply qS);(conv=>lhs;simp only[go_sem])<;>rfl;rfl)|((first|apply qT|apply qU);(conv=>lhs;simp only[go_sem])<;>rfl;rfl)|apply qV|apply qW|apply qX|apply qY|apply qZ)
      refine ⟨by first | exact .inr rfl | exact .inl rfl, _, _, (by (conv => lhs; simp only [go_sem, ibin, ishift]) <;> with_reducible rfl), (by (conv => lhs; simp only [go_sem, ibin, ishift]) <;> with_reducible rfl), ?_⟩
      refine ⟨[], by decide, rfl, ?_⟩
      exact ⟨rfl, rfl⟩
    have z9 : decide (r.tote f.b > 0) = false := decide_eq_false c9
    rw [if_neg c9]
    (with_reducible((first|apply WO2_finw|apply WO2_fina);(conv=>lhs;simp only[go_sem, ibin, ishift, z9])<;>rfl))
    have hsp := hz.sp
    have hroom : (0 + r.sp.length) * 16 ≤ room := by simp only [room]; omega
    have hroom2 : r.sp.length * 16 ≤ room := by simp only [room]; omega
    (repeat' with_reducible first |apply qA|apply qB|apply qC|apply qD|apply qE|apply qF|(apply qG;decide)|apply qH|apply qI|apply qJ|apply qK|((first|apply qL|apply qM|apply qN|apply qO|((first|apply qP|apply qQ);decide +kernel));(conv=>lhs;simp only[go_sem, ibin, ishift, hroom, hroom2, Nat.le_refl])<;>rfl)|((first|apply qR|apply qS);(conv=>lhs;simp only[go_sem])<;>rfl;rfl)|((first|apply qT|apply qU);(conv=>lhs;simp only[go_sem])<;>rfl;rfl)|apply qV|apply qW|apply qX|apply qY|apply qZ)
    refine W2.wview [0, 1, 2, 3, 5, 6, 8] (by decide) rfl (by (conv => lhs; simp only [go_sem, ibin, ishift]) <;> with_reducible rfl) (by (conv => lhs; simp only [go_sem, ibin, ishift]) <;> with_reducible rfl) ?_
    refine W2_loopu (fun m u g => ∃ (j : Nat) (E : List Sp), j + m = r.sp.length ∧ E.length = r.sp.length ∧ (∀ k, E[k]? = if k < j then (r.sp[k]?).map (mvS t.a f.b) else r.sp[k]?) ∧ u = [(134, .i .i64 j)] ∧ g = [(6, .arr 2 (E.map cSp))]) r.sp.length ⟨0, r.sp, by omega, rfl, fun k => by rw [if_neg (by omega)], rfl, rfl⟩ rfl rfl ?_
    rintro m u g ⟨j, E, hj, hEl, hE, rfl, rfl⟩
    intro e1 h1 he1 hh1; simp only [egd, supE, hgd, supH, Nat.reduceEqDiff, Nat.reduceAdd, if_true, if_false, reduceIte] at he1 hh1; subst he1; subst hh1
    by_cases hjl : j < r.sp.length
    · have g0 := hE j
      rw [if_neg (by omega)] at g0
      have gs := List.getElem?_eq_getElem hjl
      generalize r.sp[j] = s at gs
      have hg : E[j]? = some s := g0.trans gs
      have hjE : j < E.length := by omega
      have j0 : (0 : Int) ≤ (j : Int) := by omega
      have j1 : (j : Int) < (r.sp.length : Int) := by omega
      have zj : decide (j < r.sp.length) = true := decide_eq_true hjl
      have wj := wS (show j < 9223372036854775807 by omega)
      have key : ∀ E2 : List Sp, E2 = E.set j (mvS t.a f.b s) → ∀ k, E2[k]? = if k < j + 1 then (r.sp[k]?).map (mvS t.a f.b) else r.sp[k]? := fun E2 h2 k => by
        subst h2
        by_cases hk : j = k
        · subst hk
          rw [List.getElem?_set_self hjE, if_pos (by omega), gs]; rfl
        · rw [List.getElem?_set_ne hk, hE k]
          by_cases hk2 : k < j
          · rw [if_pos hk2, if_pos (by omega)]
          · rw [if_neg hk2, if_neg (by omega)]
      by_cases hst : s.tote = t.a
      · have ds : decide (s.tote = t.a) = true := decide_eq_true hst
        (repeat' with_reducible first |apply qA|apply qB|apply qC|apply qD|apply qE|apply qF|(apply qG;decide)|apply qH|apply qI|apply qJ|apply qK|((first|apply qL|apply qM|apply qN|apply qO|((first|apply qP|apply qQ);decide +kernel));(conv=>lhs;simp only[go_sem, ibin, ishift, zj, j0, j1, hg, hjE, hjl, cSp, wa, ds, wj, hEl])<;>rfl)|((first|apply qR|apply qS);(conv=>lhs;simp only[go_sem])<;>rfl;rfl)|((first|apply qT|apply qU);(conv=>lhs;simp only[go_sem])<;>rfl;rfl)|apply qV|apply qW|apply qX|apply qY|apply qZ)
        refine ⟨[0, 1, 2, 3, 4, 5, 6], by decide, rfl, ?_⟩
        rw [show (E.map cSp).set j [.i .i64 s.tote, .i .i64 f.b] = (E.set j (mvS t.a f.b s)).map cSp by rw [List.map_set, mvS, if_pos hst]; rfl]
        exact ⟨r.sp.length - (j + 1), _, _, by omega, ⟨j + 1, _, by omega, by rw [List.length_set]; exact hEl, key _ rfl, rfl, rfl⟩, rfl, (by first | rfl | ((conv => lhs; simp only [go_sem, ibin, ishift]) <;> rfl))⟩
      · have ds : decide (s.tote = t.a) = false := decide_eq_false hst
        have hsame : E = E.set j (mvS t.a f.b s) := by
          apply List.ext_getElem?
          intro k
          by_cases hk : j = k
          · subst hk; rw [List.getElem?_set_self hjE, hg, mvS, if_neg hst]
          · rw [List.getElem?_set_ne hk]
        (repeat' with_reducible first |apply qA|apply qB|apply qC|apply qD|apply qE|apply qF|(apply qG;decide)|apply qH|apply qI|apply qJ|apply qK|((first|apply qL|apply qM|apply qN|apply qO|((first|apply qP|apply qQ);decide +kernel));(conv=>lhs;simp only[go_sem, ibin, ishift, zj, j0, j1, hg, hjE, hjl, cSp, wa, ds, wj, hEl])<;>rfl)|((first|apply qR|apply qS);(conv=>lhs;simp only[go_sem])<;>rfl;rfl)|((first|apply qT|apply qU);(conv=>lhs;simp only[go_sem])<;>rfl;rfl)|apply qV|apply qW|apply qX|apply qY|apply qZ)
        refine ⟨[0, 1, 2, 3, 4, 5, 6], by decide, rfl, ?_⟩
        exact ⟨r.sp.length - (j + 1), _, _, by omega, ⟨j + 1, E, by omega, hEl, key E hsame, rfl, rfl⟩, rfl, (by first | rfl | ((conv => lhs; simp only [go_sem, ibin, ishift]) <;> rfl))⟩
    have hje : j = r.sp.length := by omega
    subst hje
    have hEE : E = r.sp.map (mvS t.a f.b) := by
      apply List.ext_getElem?
      intro k
      rw [hE k, List.getElem?_map]
      by_cases hk : k < r.sp.length
      · rw [if_pos hk]
      · rw [if_neg hk, List.getElem?_eq_none (by omega)]; rfl
    have hv2 : (Rp.mk r.l (r.sp.map (mvS t.a f.b)) r.bk (⟨t.dev, t.seq, t.a⟩ :: r.ls.filter (notDev t.dev)) (IntKind.i64.wrap (r.mv + 1))).v = .agg [.fz 3 (r.l.ns.map cN), .fz 2 (r.l.es.map cD), .fz 2 ((r.sp.map (mvS t.a f.b)).map cSp), .fz 1 (r.bk.map cI), .fz 3 ((Lt.mk t.dev t.seq t.a :: r.ls.filter (notDev t.dev)).map cLt), .i .i64 (IntKind.i64.wrap (r.mv + 1))] := rfl
    simp only
    rw [hv2, hEE]
    have hml : (r.sp.map (mvS t.a f.b)).length = r.sp.length := by simp
    generalize r.sp.map (mvS t.a f.b) = E3 at hml
    rw [← hml]
    have zj : decide (E3.length < E3.length) = false := decide_eq_false (by omega)
    refine W2.wfrz 6 rfl (by (conv => lhs; simp only [go_sem, ibin, ishift]) <;> with_reducible rfl) (by (conv => lhs; simp only [go_sem, ibin, ishift]) <;> with_reducible rfl) ?_
    (repeat' with_reducible first |apply qA|apply qB|apply qC|apply qD|apply qE|apply qF|(apply qG;decide)|apply qH|apply qI|apply qJ|apply qK|((first|apply qL|apply qM|apply qN|apply qO|((first|apply qP|apply qQ);decide +kernel));(conv=>lhs;simp only[go_sem, ibin, ishift, zj])<;>rfl)|((first|apply qR|apply qS);(conv=>lhs;simp only[go_sem])<;>rfl;rfl)|((first|apply qT|apply qU);(conv=>lhs;simp only[go_sem])<;>rfl;rfl)|apply qV|apply qW|apply qX|apply qY|apply qZ)
    refine W2.wview [0, 2, 3, 4, 7] (by decide) rfl (by (conv => lhs; simp only [go_sem, ibin, ishift]) <;> with_reducible rfl) (by (conv => lhs; simp only [go_sem, ibin, ishift]) <;> with_reducible rfl) ?_
    have hll := hz.ls
    refine W2_loopu (fun m u g => ∃ (j n : Nat) (W : List Lt), j + m = r.ls.length ∧ W = Lt.mk t.dev t.seq t.a :: (r.ls.take j).filter (notDev t.dev) ∧ n = W.length ∧ u = [(13, .sl 3 4 0 n none), (165, .i .i64 j)] ∧ g = [(4, .arr 3 (W.map cLt))]) r.ls.length ⟨0, 1, [Lt.mk t.dev t.seq t.a], by omega, by simp, rfl, rfl, rfl⟩ rfl rfl ?_
    rintro m u g ⟨j, n, W, hj, hW, hn, rfl, rfl⟩
    intro e1 h1 he1 hh1; simp only [egd, supE, hgd, supH, Nat.reduceEqDiff, Nat.reduceAdd, if_true, if_false, reduceIte] at he1 hh1; subst he1; subst hh1
    by_cases hjt : j < r.ls.length
    · have hjl : j < r.ls.length := by omega
      have hg := List.getElem?_eq_getElem hjl
      have htk : r.ls.take (j + 1) = r.ls.take j ++ [r.ls[j]] := by rw [List.take_add_one, List.getElem?_eq_getElem hjl]; rfl
      have hmem := List.getElem_mem hjl
      generalize r.ls[j] = e at hg htk hmem
      have h0 : (0 : Int) ≤ (j : Int) := by omega
      have h1 : (j : Int) < (r.ls.length : Int) := by omega
      have zj : decide (j < r.ls.length) = true := decide_eq_true hjl
      have wj := wS (show j < 9223372036854775807 by omega)
      have hnl : n ≤ j + 1 := by
        rw [hn, hW, List.length_cons]
        have := List.length_filter_le (notDev t.dev) (r.ls.take j)
        rw [List.length_take] at this
        omega
      have hroomn : (n + 1) * 16 ≤ room := by simp only [room]; omega
      have hWn : W.take n = W := by rw [hn, List.take_length]
      by_cases het : e.dev = t.dev
      · have ze : decide (e.dev = t.dev) = true := decide_eq_true het
        have hf2 : W = Lt.mk t.dev t.seq t.a :: (r.ls.take (j + 1)).filter (notDev t.dev) := by rw [hW, htk, List.filter_append, List.filter_cons_of_neg (by simp [notDev, ze])]; simp
        (repeat' with_reducible first |apply qA|apply qB|apply qC|apply qD|apply qE|apply qF|(apply qG;decide)|apply qH|apply qI|apply qJ|apply qK|((first|apply qL|apply qM|apply qN|apply qO|((first|apply qP|apply qQ);decide +kernel));(conv=>lhs;simp only[go_sem, ibin, ishift, hg, hjl, cLt, h0, h1, zj, ze, wj])<;>rfl)|((first|apply qR|apply qS);(conv=>lhs;simp only[go_sem])<;>rfl;rfl)|((first|apply qT|apply qU);(conv=>lhs;simp only[go_sem])<;>rfl;rfl)|apply qV|apply qW|apply qX|apply qY|apply qZ)
        refine ⟨[0, 1, 2, 3, 4], by decide, rfl, ?_⟩
        exact ⟨r.ls.length - (j + 1), _, _, by omega, ⟨j + 1, n, W, by omega, hf2, hn, rfl, rfl⟩, rfl, (by first | rfl | ((conv => lhs; simp only [go_sem, ibin, ishift]) <;> rfl))⟩
      · have ze : decide (e.dev = t.dev) = false := decide_eq_false het
        have hf2 : W ++ [e] = Lt.mk t.dev t.seq t.a :: (r.ls.take (j + 1)).filter (notDev t.dev) := by rw [hW, htk, List.filter_append, List.filter_cons_of_pos (by simp [notDev, ze])]; simp
        (repeat' with_reducible first |apply qA|apply qB|apply qC|apply qD|apply qE|apply qF|(apply qG;decide)|apply qH|apply qI|apply qJ|apply qK|((first|apply qL|apply qM|apply qN|apply qO|((first|apply qP|apply qQ);decide +kernel));(conv=>lhs;simp only[go_sem, ibin, ishift, hg, hjl, cLt, h0, h1, zj, ze, wj, hroomn, Nat.le_refl, hWn, ← hn])<;>rfl)|((first|apply qR|apply qS);(conv=>lhs;simp only[go_sem])<;>rfl;rfl)|((first|apply qT|apply qU);(conv=>lhs;simp only[go_sem])<;>rfl;rfl)|apply qV|apply qW|apply qX|apply qY|apply qZ)
        refine ⟨[0, 1, 2, 3, 6], by decide, rfl, ?_⟩
        exact ⟨r.ls.length - (j + 1), _, _, by omega, ⟨j + 1, n + 1, W ++ [e], by omega, hf2, by rw [List.length_append, ← hn]; rfl, rfl, rfl⟩, rfl, (by rw [List.map_append]; first | rfl | ((conv => lhs; simp only [go_sem, ibin, ishift]) <;> rfl))⟩
    have hje : j = r.ls.length := by omega
    subst hje
    rw [List.take_length] at hW
    rw [← hW]
    subst hn
    have zj : decide (r.ls.length < r.ls.length) = false := decide_eq_false (by omega)
    refine W2.wfrz 4 rfl (by (conv => lhs; simp only [go_sem, ibin, ishift]) <;> with_reducible rfl) (by (conv => lhs; simp only [go_sem, ibin, ishift]) <;> with_reducible rfl) ?_
    (repeat' with_reducible first |apply qA|apply qB|apply qC|apply qD|apply qE|apply qF|(apply qG;decide)|apply qH|apply qI|apply qJ|apply qK|((first|apply qL|apply qM|apply qN|apply qO|((first|apply qP|apply qQ);decide +kernel));(conv=>lhs;simp only[go_sem, ibin, ishift, zj])<;>rfl)|((first|apply qR|apply qS);(conv=>lhs;simp only[go_sem])<;>rfl;rfl)|((first|apply qT|apply qU);(conv=>lhs;simp only[go_sem])<;>rfl;rfl)|apply qV|apply qW|apply qX|apply qY|apply qZ)
    (repeat' with_reducible first |apply qA|apply qB|apply qC|apply qD|apply qE|apply qF|(apply qG;decide)|apply qH|apply qI|apply qJ|apply qK|apply qX|((first|apply qR|apply qS);(conv=>lhs;simp only[go_sem])<;>rfl;rfl)|((first|apply qT|apply qU);(conv=>lhs;simp only[go_sem])<;>rfl;rfl)|apply qZ|apply qY|apply qW)
    (with_reducible first | apply W2_sregH [3] [false, true, false, false] | apply W2_regH [3] [false, true, false, false])
    · decide
    · decide
    · rfl
    ((conv => lhs; simp only [go_sem, ibin, ishift]) <;> with_reducible rfl)
    refine EH_go ?_
    (repeat' with_reducible first |apply qA|apply qB|apply qC|apply qD|apply qE|apply qF|(apply qG;decide)|apply qH|apply qI|apply qJ|apply qK|((first|apply qL|apply qM|apply qN|apply qO|((first|apply qP|apply qQ);decide +kernel));(conv=>lhs;simp only[go_sem, ibin, ishift])<;>rfl)|((first|apply qR|apply qS);(conv=>lhs;simp only[go_sem])<;>rfl;rfl)|((first|apply qT|apply qU);(conv=>lhs;simp only[go_sem])<;>rfl;rfl)|apply qV|apply qW|apply qX|apply qY|apply qZ)
    refine ⟨by first | exact .inr rfl | exact .inl rfl, _, _, (by (conv => lhs; simp only [go_sem, ibin, ishift]) <;> with_reducible rfl), (by (conv => lhs; simp only [go_sem, ibin, ishift]) <;> with_reducible rfl), ?_⟩
    refine ⟨[], by decide, rfl, ?_⟩
    exact ⟨rfl, rfl⟩
end Go.Proofs.Ytpblhjaghkkdhaa.Ab
