/- Chapter 20: the plant: what is done. -/
import Derived.Test.YtpblhjaghkkdhaaY20b
namespace Go.Proofs.Ytpblhjaghkkdhaa.Ab
open Go
set_option linter.unusedVariables false
set_option linter.unusedSimpArgs false
variable {T : AT}
def Pl.put (p : Pl) (t n : Int) : Pl × Int :=
  if t < 1 ∨ 30 < t ∨ n < 0 ∨ (p.at_.length : Int) ≤ n then (p, 1)
  else if 0 ≤ p.loc t then (p, 2)
  else if 0 < p.tote n then (p, 100)
  else (⟨p.es, p.at_.set n.toNat t, p.ds, p.mv⟩, 0)
theorem put_spec (c : TabP T) (p : Pl) (hl : p.at_.length ≤ 1000000) (t n : Int) : Ret2 T 3 i_plant_Plant_Put [.ptr 0 0, .i .i64 t, .i .i64 n] p.h (fun v h' => v = .i .i64 (p.put t n).2 ∧ h' = (p.put t n).1.h) := by
  refine Ret2_fnv c.put rfl rfl ?_
  unfold Pl.h
  (repeat' with_reducible first |apply qA|apply qB|apply qC|apply qD|apply qE|apply qF|(apply qG;decide)|apply qH|apply qI|apply qJ|apply qK|((first|apply qL|apply qM|apply qN|apply qO|((first|apply qP|apply qQ);decide +kernel));(conv=>lhs;simp only[go_sem, ibin, ishift])<;>rfl)|((first|apply qR|apply qS);(conv=>lhs;simp only[go_sem])<;>rfl;rfl)|((first|apply qT|apply qU);(conv=>lhs;simp only[go_sem])<;>rfl;rfl)|apply qV|apply qW|apply qX|apply qY|apply qZ)
  by_cases hr : t < 1 ∨ 30 < t ∨ n < 0 ∨ (p.at_.length : Int) ≤ n
  · rw [show (decide (t < 1) || decide (t > 30) || decide (n < 0) || decide (n ≥ (p.at_.length : Int))) = true by simp only [Bool.or_eq_true, decide_eq_true_eq]; omega]
    (repeat' with_reducible first |apply qA|apply qB|apply qC|apply qD|apply qE|apply qF|(apply qG;decide)|apply qH|apply qI|apply qJ|apply qK|((first|apply qL|apply qM|apply qN|apply qO|((first|apply qP|apply qQ);decide +kernel));(conv=>lhs;simp only[go_sem, ibin, ishift])<;>rfl)|((first|apply qR|apply qS);(conv=>lhs;simp only[go_sem])<;>rfl;rfl)|((first|apply qT|apply qU);(conv=>lhs;simp only[go_sem])<;>rfl;rfl)|apply qV|apply qW|apply qX|apply qY|apply qZ)
    refine ⟨by first | exact .inr rfl | exact .inl rfl, _, _, (by (conv => lhs; simp only [go_sem, ibin, ishift]) <;> with_reducible rfl), (by (conv => lhs; simp only [go_sem, ibin, ishift]) <;> with_reducible rfl), ?_⟩
    refine ⟨[0, 1, 2], by decide, rfl, ?_⟩
    have : p.put t n = (p, 1) := by rw [Pl.put, if_pos hr]
    exact ⟨by rw [this]; rfl, by rw [this]; exact (by first | rfl | (simp only [go_sem, Pl.h]; done) | (simp only [go_sem, Pl.h] <;> rfl))⟩
  · rw [show (decide (t < 1) || decide (t > 30) || decide (n < 0) || decide (n ≥ (p.at_.length : Int))) = false by simp only [Bool.or_eq_false_iff, decide_eq_false_iff_not]; omega]
    have h0 : 0 ≤ n := by omega
    have h1 : n < (p.at_.length : Int) := by omega
    have h2 : n.toNat < p.at_.length := by omega
    obtain ⟨x, hg⟩ : ∃ x, p.at_[n.toNat]? = some x := ⟨_, List.getElem?_eq_getElem h2⟩
    have htn : p.tote n = x := by rw [Pl.tote, if_neg (by omega), hg]; rfl
    (repeat' with_reducible first |apply qA|apply qB|apply qC|apply qD|apply qE|apply qF|(apply qG;decide)|apply qH|apply qI|apply qJ|apply qK|((first|apply qL|apply qM|apply qN|apply qO|((first|apply qP|apply qQ);decide +kernel));(conv=>lhs;simp only[go_sem, ibin, ishift])<;>rfl)|((first|apply qR|apply qS);(conv=>lhs;simp only[go_sem])<;>rfl;rfl)|((first|apply qT|apply qU);(conv=>lhs;simp only[go_sem])<;>rfl;rfl)|apply qV|apply qW|apply qX|apply qY|apply qZ)
    (with_reducible((first|apply pA|apply pB|apply pC|apply pD|apply pE|((first|apply pF|apply pG);decide +kernel));(conv=>lhs;simp only[go_sem, ibin, ishift])<;>rfl))
    refine CK_call [0, 1, 2] (where_spec c p hl t) (by decide) (by simp) rfl rfl (by first | rfl | (simp only [go_sem, Pl.h]; done) | (simp only [go_sem, Pl.h] <;> rfl)) ?_
    rintro v h' ⟨rfl, rfl⟩
    unfold Pl.h
    (with_reducible((first|apply WO2_finw|apply WO2_fina);(conv=>lhs;simp only[go_sem, ibin, ishift])<;>rfl))
    (repeat' with_reducible first |apply qA|apply qB|apply qC|apply qD|apply qE|apply qF|(apply qG;decide)|apply qH|apply qI|apply qJ|apply qK|((first|apply qL|apply qM|apply qN|apply qO|((first|apply qP|apply qQ);decide +kernel));(conv=>lhs;simp only[go_sem, ibin, ishift])<;>rfl)|((first|apply qR|apply qS);(conv=>lhs;simp only[go_sem])<;>rfl;rfl)|((first|apply qT|apply qU);(conv=>lhs;simp only[go_sem])<;>rfl;rfl)|apply qV|apply qW|apply qX|apply qY|apply qZ)
    (((first | with_reducible apply W2_sc | with_reducible apply W2_cond); ((conv => lhs; simp only [go_sem]) <;> with_reducible rfl)) <;> intro hx <;> (try rw [hx]) <;> simp only [Bool.or_eq_true, Bool.and_eq_true, decide_eq_true_eq, Bool.or_eq_false_iff, Bool.and_eq_false_iff, decide_eq_false_iff_not, Bool.not_eq_true', Bool.not_eq_false', bne_iff_ne, beq_iff_eq, not_or, not_and, Decidable.not_not, ne_eq, gt_iff_lt, ge_iff_le, Int.not_lt, Int.not_le] at hx)
    · (repeat' with_reducible first |apply qA|apply qB|apply qC|apply qD|apply qE|apply qF|(apply qG;decide)|apply qH|apply qI|apply qJ|apply qK|((first|apply qL|apply qM|apply qN|apply qO|((first|apply qP|apply qQ);decide +kernel));(conv=>lhs;simp only[go_sem, ibin, ishift])<;>rfl)|((first|apply qR|apply qS);(conv=>lhs;simp only[go_sem])<;>rfl;rfl)|((first|apply qT|apply qU);(conv=>lhs;simp only[go_sem])<;>rfl;rfl)|apply qV|apply qW|apply qX|apply qY|apply qZ)
      refine ⟨by first | exact .inr rfl | exact .inl rfl, _, _, (by (conv => lhs; simp only [go_sem, ibin, ishift]) <;> with_reducible rfl), (by (conv => lhs; simp only [go_sem, ibin, ishift]) <;> with_reducible rfl), ?_⟩
      refine ⟨[0, 1, 2], by decide, rfl, ?_⟩
      have : p.put t n = (p, 2) := by rw [Pl.put, if_neg hr, if_pos hx]
      exact ⟨by rw [this]; rfl, by rw [this]; exact (by first | rfl | (simp only [go_sem, Pl.h]; done) | (simp only [go_sem, Pl.h] <;> rfl))⟩
    · (repeat' with_reducible first |apply qA|apply qB|apply qC|apply qD|apply qE|apply qF|(apply qG;decide)|apply qH|apply qI|apply qJ|apply qK|((first|apply qL|apply qM|apply qN|apply qO|((first|apply qP|apply qQ);decide +kernel));(conv=>lhs;simp only[go_sem, ibin, ishift, h0, h1, h2, hg, cI])<;>rfl)|((first|apply qR|apply qS);(conv=>lhs;simp only[go_sem])<;>rfl;rfl)|((first|apply qT|apply qU);(conv=>lhs;simp only[go_sem])<;>rfl;rfl)|apply qV|apply qW|apply qX|apply qY|apply qZ)
      (((first | with_reducible apply W2_sc | with_reducible apply W2_cond); ((conv => lhs; simp only [go_sem]) <;> with_reducible rfl)) <;> intro hx <;> (try rw [hx]) <;> simp only [Bool.or_eq_true, Bool.and_eq_true, decide_eq_true_eq, Bool.or_eq_false_iff, Bool.and_eq_false_iff, decide_eq_false_iff_not, Bool.not_eq_true', Bool.not_eq_false', bne_iff_ne, beq_iff_eq, not_or, not_and, Decidable.not_not, ne_eq, gt_iff_lt, ge_iff_le, Int.not_lt, Int.not_le] at hx)
      · (repeat' with_reducible first |apply qA|apply qB|apply qC|apply qD|apply qE|apply qF|(apply qG;decide)|apply qH|apply qI|apply qJ|apply qK|((first|apply qL|apply qM|apply qN|apply qO|((first|apply qP|apply qQ);decide +kernel));(conv=>lhs;simp only[go_sem, ibin, ishift])<;>rfl)|((first|apply qR|apply qS);(conv=>lhs;simp only[go_sem])<;>rfl;rfl)|((first|apply qT|apply qU);(conv=>lhs;simp only[go_sem])<;>rfl;rfl)|apply qV|apply qW|apply qX|apply qY|apply qZ)
        refine ⟨by first | exact .inr rfl | exact .inl rfl, _, _, (by (conv => lhs; simp only [go_sem, ibin, ishift]) <;> with_reducible rfl), (by (conv => lhs; simp only [go_sem, ibin, ishift]) <;> with_reducible rfl), ?_⟩
        refine ⟨[0, 1, 2], by decide, rfl, ?_⟩
        have : p.put t n = (p, 100) := by rw [Pl.put, if_neg hr, if_neg (by omega), htn, if_pos hx]
        exact ⟨by rw [this]; rfl, by rw [this]; exact (by first | rfl | (simp only [go_sem, Pl.h]; done) | (simp only [go_sem, Pl.h] <;> rfl))⟩
      · (repeat' with_reducible first |apply qA|apply qB|apply qC|apply qD|apply qE|apply qF|(apply qG;decide)|apply qH|apply qI|apply qJ|apply qK|((first|apply qL|apply qM|apply qN|apply qO|((first|apply qP|apply qQ);decide +kernel));(conv=>lhs;simp only[go_sem, ibin, ishift, h0, h1, h2, hg, cI])<;>rfl)|((first|apply qR|apply qS);(conv=>lhs;simp only[go_sem])<;>rfl;rfl)|((first|apply qT|apply qU);(conv=>lhs;simp only[go_sem])<;>rfl;rfl)|apply qV|apply qW|apply qX|apply qY|apply qZ)
        refine ⟨by first | exact .inr rfl | exact .inl rfl, _, _, (by (conv => lhs; simp only [go_sem, ibin, ishift]) <;> with_reducible rfl), (by (conv => lhs; simp only [go_sem, ibin, ishift]) <;> with_reducible rfl), ?_⟩
        refine ⟨[0, 1, 2], by decide, rfl, ?_⟩
        have : p.put t n = (⟨p.es, p.at_.set n.toNat t, p.ds, p.mv⟩, 0) := by rw [Pl.put, if_neg hr, if_neg (by omega), htn, if_neg (by omega)]
        rw [this]
        refine ⟨rfl, ?_⟩
        simp only [List.length_set, List.map_set]
        exact (by first | rfl | ((conv => lhs; simp only [go_sem, ibin, ishift]) <;> rfl))
/-- a device is told to be out of order, or in order -/
def Pl.set (p : Pl) (d : Int) (b : Bool) (k : Int) : Pl × Te × Int :=
  if p.noDev d = true then (p, Te.nil, 1)
  else (⟨p.es, p.at_, p.ds.set d.toNat (match p.ds[d.toNat]? with | some x => ⟨b, x.did, x.seq, x.tote⟩ | none => ⟨b, false, 0, 0⟩), p.mv⟩, ⟨k, IntKind.u16.wrap d, 0, 0, 0⟩, 0)
theorem break_spec (c : TabP T) (p : Pl) (d : Int) : Ret2 T 3 i_plant_Plant_Break [.ptr 0 0, .i .i64 d] p.h (fun v h' => v = .tup [(p.set d true 4).2.1.v, .i .i64 (p.set d true 4).2.2] ∧ h' = (p.set d true 4).1.h) := by
  refine Ret2_fnv c.break_ rfl rfl ?_
  unfold Pl.h
  (repeat' with_reducible first |apply qA|apply qB|apply qC|apply qD|apply qE|apply qF|(apply qG;decide)|apply qH|apply qI|apply qJ|apply qK|((first|apply qL|apply qM|apply qN|apply qO|((first|apply qP|apply qQ);decide +kernel));(conv=>lhs;simp only[go_sem, ibin, ishift])<;>rfl)|((first|apply qR|apply qS);(conv=>lhs;simp only[go_sem])<;>rfl;rfl)|((first|apply qT|apply qU);(conv=>lhs;simp only[go_sem])<;>rfl;rfl)|apply qV|apply qW|apply qX|apply qY|apply qZ)
  (with_reducible((first|apply pA|apply pB|apply pC|apply pD|apply pE|((first|apply pF|apply pG);decide +kernel));(conv=>lhs;simp only[go_sem, ibin, ishift])<;>rfl))
  refine CK_call [0, 1, 2] (noDev_spec c p d) (by decide) (by simp) rfl rfl (by first | rfl | (simp only [go_sem, Pl.h]; done) | (simp only [go_sem, Pl.h] <;> rfl)) ?_
  rintro v h' ⟨rfl, rfl⟩
  unfold Pl.h
  cases hn : p.noDev d with
  | true =>
    have : p.set d true 4 = (p, Te.nil, 1) := by rw [Pl.set, if_pos hn]
    rw [this]
    (with_reducible((first|apply WO2_finw|apply WO2_fina);(conv=>lhs;simp only[go_sem, ibin, ishift])<;>rfl))
    (repeat' with_reducible first |apply qA|apply qB|apply qC|apply qD|apply qE|apply qF|(apply qG;decide)|apply qH|apply qI|apply qJ|apply qK|((first|apply qL|apply qM|apply qN|apply qO|((first|apply qP|apply qQ);decide +kernel));(conv=>lhs;simp only[go_sem, ibin, ishift])<;>rfl)|((first|apply qR|apply qS);(conv=>lhs;simp only[go_sem])<;>rfl;rfl)|((first|apply qT|apply qU);(conv=>lhs;simp only[go_sem])<;>rfl;rfl)|apply qV|apply qW|apply qX|apply qY|apply qZ)
    refine ⟨by first | exact .inr rfl | exact .inl rfl, _, _, (by (conv => lhs; simp only [go_sem, ibin, ishift]) <;> with_reducible rfl), (by (conv => lhs; simp only [go_sem, ibin, ishift]) <;> with_reducible rfl), ?_⟩
    refine ⟨[0, 1, 2], by decide, rfl, ?_⟩
    exact ⟨rfl, (by first | rfl | (simp only [go_sem, Pl.h]; done) | (simp only [go_sem, Pl.h] <;> rfl))⟩
  | false =>
    have hr : ¬(d < 1 ∨ (p.ds.length : Int) ≤ d) := by simpa [Pl.noDev] using hn
    have h0 : 0 ≤ d := by omega
    have h1 : d < (p.ds.length : Int) := by omega
    have h2 : d.toNat < p.ds.length := by omega
    obtain ⟨x, hx⟩ : ∃ x, p.ds[d.toNat]? = some x := ⟨_, List.getElem?_eq_getElem h2⟩
    have : p.set d true 4 = (⟨p.es, p.at_, p.ds.set d.toNat ⟨true, x.did, x.seq, x.tote⟩, p.mv⟩, ⟨4, IntKind.u16.wrap d, 0, 0, 0⟩, 0) := by rw [Pl.set, if_neg (by rw [hn]; decide), hx]
    rw [this]
    (with_reducible((first|apply WO2_finw|apply WO2_fina);(conv=>lhs;simp only[go_sem, ibin, ishift])<;>rfl))
    (repeat' with_reducible first |apply qA|apply qB|apply qC|apply qD|apply qE|apply qF|(apply qG;decide)|apply qH|apply qI|apply qJ|apply qK|((first|apply qL|apply qM|apply qN|apply qO|((first|apply qP|apply qQ);decide +kernel));(conv=>lhs;simp only[go_sem, ibin, ishift, h0, h1, h2, hx, cV])<;>rfl)|((first|apply qR|apply qS);(conv=>lhs;simp only[go_sem])<;>rfl;rfl)|((first|apply qT|apply qU);(conv=>lhs;simp only[go_sem])<;>rfl;rfl)|apply qV|apply qW|apply qX|apply qY|apply qZ)
    refine ⟨by first | exact .inr rfl | exact .inl rfl, _, _, (by (conv => lhs; simp only [go_sem, ibin, ishift]) <;> with_reducible rfl), (by (conv => lhs; simp only [go_sem, ibin, ishift]) <;> with_reducible rfl), ?_⟩
    refine ⟨[0, 1, 2], by decide, rfl, ?_⟩
    refine ⟨rfl, ?_⟩
    simp only [List.length_set, List.map_set]
    exact (by first | rfl | ((conv => lhs; simp only [go_sem, ibin, ishift]) <;> rfl))
theorem mend_spec (c : TabP T) (p : Pl) (d : Int) : Ret2 T 3 i_plant_Plant_Mend [.ptr 0 0, .i .i64 d] p.h (fun v h' => v = .tup [(p.set d false 5).2.1.v, .i .i64 (p.set d false 5).2.2] ∧ h' = (p.set d false 5).1.h) := by
  refine Ret2_fnv c.mend rfl rfl ?_
  unfold Pl.h
  (repeat' with_reducible first |apply qA|apply qB|apply qC|apply qD|apply qE|apply qF|(apply qG;decide)|apply qH|apply qI|apply qJ|apply qK|((first|apply qL|apply qM|apply qN|apply qO|((first|apply qP|apply qQ);decide +kernel));(conv=>lhs;simp only[go_sem, ibin, ishift])<;>rfl)|((first|apply qR|apply qS);(conv=>lhs;simp only[go_sem])<;>rfl;rfl)|((first|apply qT|apply qU);(conv=>lhs;simp only[go_sem])<;>rfl;rfl)|apply qV|apply qW|apply qX|apply qY|apply qZ)
  (with_reducible((first|apply pA|apply pB|apply pC|apply pD|apply pE|((first|apply pF|apply pG);decide +kernel));(conv=>lhs;simp only[go_sem, ibin, ishift])<;>rfl))
  refine CK_call [0, 1, 2] (noDev_spec c p d) (by decide) (by simp) rfl rfl (by first | rfl | (simp only [go_sem, Pl.h]; done) | (simp only [go_sem, Pl.h] <;> rfl)) ?_
  rintro v h' ⟨rfl, rfl⟩
  unfold Pl.h
  cases hn : p.noDev d with
  | true =>
    have : p.set d false 5 = (p, Te.nil, 1) := by rw [Pl.set, if_pos hn]
    rw [this]
    (with_reducible((first|apply WO2_finw|apply WO2_fina);(conv=>lhs;simp only[go_sem, ibin, ishift])<;>rfl))
    (repeat' with_reducible first |apply qA|apply qB|apply qC|apply qD|apply qE|apply qF|(apply qG;decide)|apply qH|apply qI|apply qJ|apply qK|((first|apply qL|apply qM|apply qN|apply qO|((first|apply qP|apply qQ);decide +kernel));(conv=>lhs;simp only[go_sem, ibin, ishift])<;>rfl)|((first|apply qR|apply qS);(conv=>lhs;simp only[go_sem])<;>rfl;rfl)|((first|apply qT|apply qU);(conv=>lhs;simp only[go_sem])<;>rfl;rfl)|apply qV|apply qW|apply qX|apply qY|apply qZ)
    refine ⟨by first | exact .inr rfl | exact .inl rfl, _, _, (by (conv => lhs; simp only [go_sem, ibin, ishift]) <;> with_reducible rfl), (by (conv => lhs; simp only [go_sem, ibin, ishift]) <;> with_reducible rfl), ?_⟩
    refine ⟨[0, 1, 2], by decide, rfl, ?_⟩
    exact ⟨rfl, (by first | rfl | (simp only [go_sem, Pl.h]; done) | (simp only [go_sem, Pl.h] <;> rfl))⟩
  | false =>
    have hr : ¬(d < 1 ∨ (p.ds.length : Int) ≤ d) := by simpa [Pl.noDev] using hn
    have h0 : 0 ≤ d := by omega
    have h1 : d < (p.ds.length : Int) := by omega
    have h2 : d.toNat < p.ds.length := by omega
    obtain ⟨x, hx⟩ : ∃ x, p.ds[d.toNat]? = some x := ⟨_, List.getElem?_eq_getElem h2⟩
    have : p.set d false 5 = (⟨p.es, p.at_, p.ds.set d.toNat ⟨false, x.did, x.seq, x.tote⟩, p.mv⟩, ⟨5, IntKind.u16.wrap d, 0, 0, 0⟩, 0) := by rw [Pl.set, if_neg (by rw [hn]; decide), hx]
    rw [this]
    (with_reducible((first|apply WO2_finw|apply WO2_fina);(conv=>lhs;simp only[go_sem, ibin, ishift])<;>rfl))
    (repeat' with_reducible first |apply qA|apply qB|apply qC|apply qD|apply qE|apply qF|(apply qG;decide)|apply qH|apply qI|apply qJ|apply qK|((first|apply qL|apply qM|apply qN|apply qO|((first|apply qP|apply qQ);decide +kernel));(conv=>lhs;simp only[go_sem, ibin, ishift, h0, h1, h2, hx, cV])<;>rfl)|((first|apply qR|apply qS);(conv=>lhs;simp only[go_sem])<;>rfl;rfl)|((first|apply qT|apply qU);(conv=>lhs;simp only[go_sem])<;>rfl;rfl)|apply qV|apply qW|apply qX|apply qY|apply qZ)
    refine ⟨by first | exact .inr rfl | exact .inl rfl, _, _, (by (conv => lhs; simp only [go_sem, ibin, ishift]) <;> with_reducible rfl), (by (conv => lhs; simp only [go_sem, ibin, ishift]) <;> with_reducible rfl), ?_⟩
    refine ⟨[0, 1, 2], by decide, rfl, ?_⟩
    refine ⟨rfl, ?_⟩
    simp only [List.length_set, List.map_set]
    exact (by first | rfl | ((conv => lhs; simp only [go_sem, ibin, ishift]) <;> rfl))
def Pl.move (p : Pl) (j : Nat) (e : Ed) (t : Te) : Pl × Te × Bool :=
  match p.ds[j]? with
  | none => (p, Te.nil, false)
  | some d =>
    if d.did = true ∧ d.seq = t.seq ∧ d.tote = t.a then (p, ⟨2, t.dev, t.seq, t.a, 0⟩, true)
    else if d.did = true ∧ ¬(dist d.seq t.seq > 0) then (p, Te.nil, false)
    else if p.tote e.a ≠ t.a ∨ t.a = 0 then (p, ⟨3, t.dev, t.seq, t.a, 1⟩, true)
    else if p.tote e.b > 0 then (p, ⟨3, t.dev, t.seq, t.a, 2⟩, true)
    else (⟨p.es, (p.at_.set e.a.toNat 0).set e.b.toNat t.a, p.ds.set j ⟨d.broken, true, t.seq, t.a⟩, IntKind.i64.wrap (p.mv + 1)⟩, ⟨2, t.dev, t.seq, t.a, 0⟩, true)
theorem move_spec (c : TabP T) (p : Pl) (hl : p.at_.length ≤ 1000000) {j : Nat} {d : Dv} (hj : p.ds[j]? = some d) (e : Ed) (he : 0 ≤ e.a ∧ e.a < p.at_.length ∧ 0 ≤ e.b ∧ e.b < p.at_.length ∧ e.a ≠ e.b) (t : Te) (ht : 0 ≤ t.a ∧ t.a < 65536) :
    Ret2 T 3 i_plant_Plant_move [.ptr 0 0, .ep 4 2 j 0, .agg [.i .i64 e.a, .i .i64 e.b], t.v] p.h (fun v h' => v = .tup [(p.move j e t).2.1.v, .b (p.move j e t).2.2] ∧ h' = (p.move j e t).1.h) := by
  refine Ret2_fnv c.move rfl rfl ?_
  unfold Pl.h Te.v
  have hjl : j < p.ds.length := (List.getElem?_eq_some_iff.1 hj).1
  obtain ⟨a0, a1, b0, b1, hab⟩ := he
  have a2 : e.a.toNat < p.at_.length := by omega
  have b2 : e.b.toNat < p.at_.length := by omega
  obtain ⟨x, hx⟩ : ∃ x, p.at_[e.a.toNat]? = some x := ⟨_, List.getElem?_eq_getElem a2⟩
  obtain ⟨y, hy⟩ : ∃ y, p.at_[e.b.toNat]? = some y := ⟨_, List.getElem?_eq_getElem b2⟩
  have ex : p.tote e.a = x := by rw [Pl.tote, if_neg (by omega), hx]; rfl
  have ey : p.tote e.b = y := by rw [Pl.tote, if_neg (by omega), hy]; rfl
  have hby : ((List.map cI p.at_).set e.a.toNat [PV.i .i64 0])[e.b.toNat]? = some [PV.i .i64 y] := by rw [List.getElem?_set_ne (by omega), List.getElem?_map, hy]; rfl
  have hsv : ∀ R, ((List.map cV p.ds).set j R)[j]? = some R := fun R => List.getElem?_set_self (by rw [List.length_map]; exact hjl)
  have wa : IntKind.i64.wrap t.a = t.a := wi _ (by omega) (by omega)
  (repeat' with_reducible first |apply qA|apply qB|apply qC|apply qD|apply qE|apply qF|(apply qG;decide)|apply qH|apply qI|apply qJ|apply qK|((first|apply qL|apply qM|apply qN|apply qO|((first|apply qP|apply qQ);decide +kernel));(conv=>lhs;simp only[go_sem, ibin, ishift, hj, hjl, cV])<;>rfl)|((first|apply qR|apply qS);(conv=>lhs;simp only[go_sem])<;>rfl;rfl)|((first|apply qT|apply qU);(conv=>lhs;simp only[go_sem])<;>rfl;rfl)|apply qV|apply qW|apply qX|apply qY|apply qZ)
  by_cases k1 : d.did = true ∧ d.seq = t.seq ∧ d.tote = t.a
  · rw [show (d.did && decide (d.seq = t.seq) && decide (d.tote = t.a)) = true by simp [k1]]
    have hm : p.move j e t = (p, ⟨2, t.dev, t.seq, t.a, 0⟩, true) := by simp only [Pl.move, hj]; rw [if_pos k1]
    (repeat' with_reducible first |apply qA|apply qB|apply qC|apply qD|apply qE|apply qF|(apply qG;decide)|apply qH|apply qI|apply qJ|apply qK|((first|apply qL|apply qM|apply qN|apply qO|((first|apply qP|apply qQ);decide +kernel));(conv=>lhs;simp only[go_sem, ibin, ishift])<;>rfl)|((first|apply qR|apply qS);(conv=>lhs;simp only[go_sem])<;>rfl;rfl)|((first|apply qT|apply qU);(conv=>lhs;simp only[go_sem])<;>rfl;rfl)|apply qV|apply qW|apply qX|apply qY|apply qZ)
    refine ⟨by first | exact .inr rfl | exact .inl rfl, _, _, (by (conv => lhs; simp only [go_sem, ibin, ishift]) <;> with_reducible rfl), (by (conv => lhs; simp only [go_sem, ibin, ishift]) <;> with_reducible rfl), ?_⟩
    refine ⟨[0, 1, 2], by decide, rfl, ?_⟩
    exact ⟨by rw [hm]; rfl, by rw [hm]; exact (by first | rfl | (simp only [go_sem, Pl.h]; done) | (simp only [go_sem, Pl.h] <;> rfl))⟩
  · rw [show (d.did && decide (d.seq = t.seq) && decide (d.tote = t.a)) = false by
      rw [← Bool.not_eq_true]; intro h; simp only [Bool.and_eq_true, decide_eq_true_eq] at h; exact k1 ⟨h.1.1, h.1.2, h.2⟩]
    by_cases k2 : d.did = true ∧ ¬(dist d.seq t.seq > 0)
    · have hm : p.move j e t = (p, Te.nil, false) := by simp only [Pl.move, hj]; rw [if_neg k1, if_pos k2]
      have kd : decide (dist d.seq t.seq > 0) = false := decide_eq_false k2.2
      have k3 := k2.1
      (repeat' with_reducible first |apply qA|apply qB|apply qC|apply qD|apply qE|apply qF|(apply qG;decide)|apply qH|apply qI|apply qJ|apply qK|((first|apply qL|apply qM|apply qN|apply qO|((first|apply qP|apply qQ);decide +kernel));(conv=>lhs;simp only[go_sem, ibin, ishift])<;>rfl)|((first|apply qR|apply qS);(conv=>lhs;simp only[go_sem])<;>rfl;rfl)|((first|apply qT|apply qU);(conv=>lhs;simp only[go_sem])<;>rfl;rfl)|apply qV|apply qW|apply qX|apply qY|apply qZ)
      (with_reducible((first|apply pA|apply pB|apply pC|apply pD|apply pE|((first|apply pF|apply pG);decide +kernel));(conv=>lhs;simp only[go_sem, ibin, ishift, hj, hjl, cV, k3])<;>rfl))
      refine CK_pure (behind_spec c d.seq t.seq) rfl ?_
      rintro v h' ⟨rfl, rfl⟩
      rw [kd]
      (with_reducible((first|apply WO2_finw|apply WO2_fina);(conv=>lhs;simp only[go_sem, ibin, ishift])<;>rfl))
      (repeat' with_reducible first |apply qA|apply qB|apply qC|apply qD|apply qE|apply qF|(apply qG;decide)|apply qH|apply qI|apply qJ|apply qK|((first|apply qL|apply qM|apply qN|apply qO|((first|apply qP|apply qQ);decide +kernel));(conv=>lhs;simp only[go_sem, ibin, ishift])<;>rfl)|((first|apply qR|apply qS);(conv=>lhs;simp only[go_sem])<;>rfl;rfl)|((first|apply qT|apply qU);(conv=>lhs;simp only[go_sem])<;>rfl;rfl)|apply qV|apply qW|apply qX|apply qY|apply qZ)
      refine ⟨by first | exact .inr rfl | exact .inl rfl, _, _, (by (conv => lhs; simp only [go_sem, ibin, ishift]) <;> with_reducible rfl), (by (conv => lhs; simp only [go_sem, ibin, ishift]) <;> with_reducible rfl), ?_⟩
      refine ⟨[0, 1, 2], by decide, rfl, ?_⟩
      exact ⟨by rw [hm]; rfl, by rw [hm]; exact (by first | rfl | (simp only [go_sem, Pl.h]; done) | (simp only [go_sem, Pl.h] <;> rfl))⟩
    · have k5 : ¬(d.did = true ∧ ¬(dist d.seq t.seq > 0)) := k2
      cases k3 : d.did with
      | false =>
        (repeat' with_reducible first |apply qA|apply qB|apply qC|apply qD|apply qE|apply qF|(apply qG;decide)|apply qH|apply qI|apply qJ|apply qK|((first|apply qL|apply qM|apply qN|apply qO|((first|apply qP|apply qQ);decide +kernel));(conv=>lhs;simp only[go_sem, ibin, ishift, hj, hjl, cV, k3, cI, a0, a1, a2, hx])<;>rfl)|((first|apply qR|apply qS);(conv=>lhs;simp only[go_sem])<;>rfl;rfl)|((first|apply qT|apply qU);(conv=>lhs;simp only[go_sem])<;>rfl;rfl)|apply qV|apply qW|apply qX|apply qY|apply qZ)
        by_cases k4 : p.tote e.a ≠ t.a ∨ t.a = 0
        · have hm : p.move j e t = (p, ⟨3, t.dev, t.seq, t.a, 1⟩, true) := by simp only [Pl.move, hj]; rw [if_neg k1, if_neg k5, if_pos k4]
          rw [show (!decide (x = IntKind.i64.wrap t.a) || decide (t.a = 0)) = true by rw [wa, ← ex]; simpa using k4]
          (repeat' with_reducible first |apply qA|apply qB|apply qC|apply qD|apply qE|apply qF|(apply qG;decide)|apply qH|apply qI|apply qJ|apply qK|((first|apply qL|apply qM|apply qN|apply qO|((first|apply qP|apply qQ);decide +kernel));(conv=>lhs;simp only[go_sem, ibin, ishift])<;>rfl)|((first|apply qR|apply qS);(conv=>lhs;simp only[go_sem])<;>rfl;rfl)|((first|apply qT|apply qU);(conv=>lhs;simp only[go_sem])<;>rfl;rfl)|apply qV|apply qW|apply qX|apply qY|apply qZ)
          refine ⟨by first | exact .inr rfl | exact .inl rfl, _, _, (by (conv => lhs; simp only [go_sem, ibin, ishift]) <;> with_reducible rfl), (by (conv => lhs; simp only [go_sem, ibin, ishift]) <;> with_reducible rfl), ?_⟩
          refine ⟨[0, 1, 2], by decide, rfl, ?_⟩
          exact ⟨by rw [hm]; rfl, by rw [hm]; exact (by first | rfl | (simp only [go_sem, Pl.h]; done) | (simp only [go_sem, Pl.h] <;> rfl))⟩
        · have k6 : p.tote e.a = t.a ∧ t.a ≠ 0 := by omega
          rw [show (!decide (x = IntKind.i64.wrap t.a) || decide (t.a = 0)) = false by rw [wa, ← ex]; simpa using k6]
          by_cases k7 : p.tote e.b > 0
          · have hm : p.move j e t = (p, ⟨3, t.dev, t.seq, t.a, 2⟩, true) := by simp only [Pl.move, hj]; rw [if_neg k1, if_neg k5, if_neg k4, if_pos k7]
            have k8 : decide (y > 0) = true := by rw [← ey]; exact decide_eq_true k7
            (repeat' with_reducible first |apply qA|apply qB|apply qC|apply qD|apply qE|apply qF|(apply qG;decide)|apply qH|apply qI|apply qJ|apply qK|((first|apply qL|apply qM|apply qN|apply qO|((first|apply qP|apply qQ);decide +kernel));(conv=>lhs;simp only[go_sem, ibin, ishift, b0, b1, b2, hy, cI, k8])<;>rfl)|((first|apply qR|apply qS);(conv=>lhs;simp only[go_sem])<;>rfl;rfl)|((first|apply qT|apply qU);(conv=>lhs;simp only[go_sem])<;>rfl;rfl)|apply qV|apply qW|apply qX|apply qY|apply qZ)
            (repeat' with_reducible first |apply qA|apply qB|apply qC|apply qD|apply qE|apply qF|(apply qG;decide)|apply qH|apply qI|apply qJ|apply qK|((first|apply qL|apply qM|apply qN|apply qO|((first|apply qP|apply qQ);decide +kernel));(conv=>lhs;simp only[go_sem, ibin, ishift])<;>rfl)|((first|apply qR|apply qS);(conv=>lhs;simp only[go_sem])<;>rfl;rfl)|((first|apply qT|apply qU);(conv=>lhs;simp only[go_sem])<;>rfl;rfl)|apply qV|apply qW|apply qX|apply qY|apply qZ)
            refine ⟨by first | exact .inr rfl | exact .inl rfl, _, _, (by (conv => lhs; simp only [go_sem, ibin, ishift]) <;> with_reducible rfl), (by (conv => lhs; simp only [go_sem, ibin, ishift]) <;> with_reducible rfl), ?_⟩
            refine ⟨[0, 1, 2], by decide, rfl, ?_⟩
            exact ⟨by rw [hm]; rfl, by rw [hm]; exact (by first | rfl | (simp only [go_sem, Pl.h]; done) | (simp only [go_sem, Pl.h] <;> rfl))⟩
          · have hm : p.move j e t = (⟨p.es, (p.at_.set e.a.toNat 0).set e.b.toNat t.a, p.ds.set j ⟨d.broken, true, t.seq, t.a⟩, IntKind.i64.wrap (p.mv + 1)⟩, ⟨2, t.dev, t.seq, t.a, 0⟩, true) := by simp only [Pl.move, hj]; rw [if_neg k1, if_neg k5, if_neg k4, if_neg k7]
            have k8 : decide (y > 0) = false := by rw [← ey]; exact decide_eq_false k7
            (repeat' with_reducible first |apply qA|apply qB|apply qC|apply qD|apply qE|apply qF|(apply qG;decide)|apply qH|apply qI|apply qJ|apply qK|((first|apply qL|apply qM|apply qN|apply qO|((first|apply qP|apply qQ);decide +kernel));(conv=>lhs;simp only[go_sem, ibin, ishift, b0, b1, b2, hy, cI, k8])<;>rfl)|((first|apply qR|apply qS);(conv=>lhs;simp only[go_sem])<;>rfl;rfl)|((first|apply qT|apply qU);(conv=>lhs;simp only[go_sem])<;>rfl;rfl)|apply qV|apply qW|apply qX|apply qY|apply qZ)
            (repeat' with_reducible first |apply qA|apply qB|apply qC|apply qD|apply qE|apply qF|(apply qG;decide)|apply qH|apply qI|apply qJ|apply qK|((first|apply qL|apply qM|apply qN|apply qO|((first|apply qP|apply qQ);decide +kernel));(conv=>lhs;simp only[go_sem, ibin, ishift])<;>rfl)|((first|apply qR|apply qS);(conv=>lhs;simp only[go_sem])<;>rfl;rfl)|((first|apply qT|apply qU);(conv=>lhs;simp only[go_sem])<;>rfl;rfl)|apply qV|apply qW|apply qX|apply qY|apply qZ)
            (repeat' with_reducible first |apply qA|apply qB|apply qC|apply qD|apply qE|apply qF|(apply qG;decide)|apply qH|apply qI|apply qJ|apply qK|apply qX|((first|apply qR|apply qS);(conv=>lhs;simp only[go_sem])<;>rfl;rfl)|((first|apply qT|apply qU);(conv=>lhs;simp only[go_sem])<;>rfl;rfl)|apply qZ|apply qY|apply qW)
            (with_reducible first | apply W2_sregH [0, 3, 4] [false, false, false, false, false, false, false, false, false, false, false, true, false, true, false, false, false, false, false] | apply W2_regH [0, 3, 4] [false, false, false, false, false, false, false, false, false, false, false, true, false, true, false, false, false, false, false])
            · decide
            · decide
            · rfl
            ((conv => lhs; simp only [go_sem, ibin, ishift, a0, a1, a2, b0, b1, b2, hx, hy, hby, cI, wa]) <;> with_reducible rfl)
            refine EH_go ?_
            (repeat' with_reducible first |apply qA|apply qB|apply qC|apply qD|apply qE|apply qF|(apply qG;decide)|apply qH|apply qI|apply qJ|apply qK|apply qX|((first|apply qR|apply qS);(conv=>lhs;simp only[go_sem])<;>rfl;rfl)|((first|apply qT|apply qU);(conv=>lhs;simp only[go_sem])<;>rfl;rfl)|apply qZ|apply qY|apply qW)
            (with_reducible first | apply W2_sregH [4] [false, false, false, false, true, false, true, false, false, false, false, false, false, false, false, false] | apply W2_regH [4] [false, false, false, false, true, false, true, false, false, false, false, false, false, false, false, false])
            · decide
            · decide
            · rfl
            ((conv => lhs; simp only [go_sem, ibin, ishift, hj, hjl, cV, hsv, List.set_set]) <;> with_reducible rfl)
            refine EH_go ?_
            (repeat' with_reducible first |apply qA|apply qB|apply qC|apply qD|apply qE|apply qF|(apply qG;decide)|apply qH|apply qI|apply qJ|apply qK|((first|apply qL|apply qM|apply qN|apply qO|((first|apply qP|apply qQ);decide +kernel));(conv=>lhs;simp only[go_sem, ibin, ishift])<;>rfl)|((first|apply qR|apply qS);(conv=>lhs;simp only[go_sem])<;>rfl;rfl)|((first|apply qT|apply qU);(conv=>lhs;simp only[go_sem])<;>rfl;rfl)|apply qV|apply qW|apply qX|apply qY|apply qZ)
            refine ⟨by first | exact .inr rfl | exact .inl rfl, _, _, (by (conv => lhs; simp only [go_sem, ibin, ishift]) <;> with_reducible rfl), (by (conv => lhs; simp only [go_sem, ibin, ishift]) <;> with_reducible rfl), ?_⟩
            refine ⟨[0, 1, 2], by decide, rfl, ?_⟩
            rw [hm]
            refine ⟨rfl, ?_⟩
            simp only [List.length_set, List.map_set]
            exact (by first | rfl | ((conv => lhs; simp only [go_sem, ibin, ishift]) <;> rfl))
      | true =>
        have kd : decide (dist d.seq t.seq > 0) = true := decide_eq_true (by
          by_cases h : dist d.seq t.seq > 0
          · exact h
          · exact (k2 ⟨k3, h⟩).elim)
        (repeat' with_reducible first |apply qA|apply qB|apply qC|apply qD|apply qE|apply qF|(apply qG;decide)|apply qH|apply qI|apply qJ|apply qK|((first|apply qL|apply qM|apply qN|apply qO|((first|apply qP|apply qQ);decide +kernel));(conv=>lhs;simp only[go_sem, ibin, ishift])<;>rfl)|((first|apply qR|apply qS);(conv=>lhs;simp only[go_sem])<;>rfl;rfl)|((first|apply qT|apply qU);(conv=>lhs;simp only[go_sem])<;>rfl;rfl)|apply qV|apply qW|apply qX|apply qY|apply qZ)
        (with_reducible((first|apply pA|apply pB|apply pC|apply pD|apply pE|((first|apply pF|apply pG);decide +kernel));(conv=>lhs;simp only[go_sem, ibin, ishift, hj, hjl, cV, k3])<;>rfl))
        refine CK_pure (behind_spec c d.seq t.seq) rfl ?_
        rintro v h' ⟨rfl, rfl⟩
        rw [kd]
        (with_reducible((first|apply WO2_finw|apply WO2_fina);(conv=>lhs;simp only[go_sem, ibin, ishift])<;>rfl))
        (repeat' with_reducible first |apply qA|apply qB|apply qC|apply qD|apply qE|apply qF|(apply qG;decide)|apply qH|apply qI|apply qJ|apply qK|((first|apply qL|apply qM|apply qN|apply qO|((first|apply qP|apply qQ);decide +kernel));(conv=>lhs;simp only[go_sem, ibin, ishift, hj, hjl, cV, k3, cI, a0, a1, a2, hx])<;>rfl)|((first|apply qR|apply qS);(conv=>lhs;simp only[go_sem])<;>rfl;rfl)|((first|apply qT|apply qU);(conv=>lhs;simp only[go_sem])<;>rfl;rfl)|apply qV|apply qW|apply qX|apply qY|apply qZ)
        by_cases k4 : p.tote e.a ≠ t.a ∨ t.a = 0
        · have hm : p.move j e t = (p, ⟨3, t.dev, t.seq, t.a, 1⟩, true) := by simp only [Pl.move, hj]; rw [if_neg k1, if_neg k5, if_pos k4]
          rw [show (!decide (x = IntKind.i64.wrap t.a) || decide (t.a = 0)) = true by rw [wa, ← ex]; simpa using k4]
          (repeat' with_reducible first |apply qA|apply qB|apply qC|apply qD|apply qE|apply qF|(apply qG;decide)|apply qH|apply qI|apply qJ|apply qK|((first|apply qL|apply qM|apply qN|apply qO|((first|apply qP|apply qQ);decide +kernel));(conv=>lhs;simp only[go_sem, ibin, ishift])<;>rfl)|((first|apply qR|apply qS);(conv=>lhs;simp only[go_sem])<;>rfl;rfl)|((first|apply qT|apply qU);(conv=>lhs;simp only[go_sem])<;>rfl;rfl)|apply qV|apply qW|apply qX|apply qY|apply qZ)
          refine ⟨by first | exact .inr rfl | exact .inl rfl, _, _, (by (conv => lhs; simp only [go_sem, ibin, ishift]) <;> with_reducible rfl), (by (conv => lhs; simp only [go_sem, ibin, ishift]) <;> with_reducible rfl), ?_⟩
          refine ⟨[0, 1, 2], by decide, rfl, ?_⟩
          exact ⟨by rw [hm]; rfl, by rw [hm]; exact (by first | rfl | (simp only [go_sem, Pl.h]; done) | (simp only [go_sem, Pl.h] <;> rfl))⟩
        · have k6 : p.tote e.a = t.a ∧ t.a ≠ 0 := by omega
          rw [show (!decide (x = IntKind.i64.wrap t.a) || decide (t.a = 0)) = false by rw [wa, ← ex]; simpa using k6]
          by_cases k7 : p.tote e.b > 0
          · have hm : p.move j e t = (p, ⟨3, t.dev, t.seq, t.a, 2⟩, true) := by simp only [Pl.move, hj]; rw [if_neg k1, if_neg k5, if_neg k4, if_pos k7]
            have k8 : decide (y > 0) = true := by rw [← ey]; exact decide_eq_true k7
            (repeat' with_reducible first |apply qA|apply qB|apply qC|apply qD|apply qE|apply qF|(apply qG;decide)|apply qH|apply qI|apply qJ|apply qK|((first|apply qL|apply qM|apply qN|apply qO|((first|apply qP|apply qQ);decide +kernel));(conv=>lhs;simp only[go_sem, ibin, ishift, b0, b1, b2, hy, cI, k8])<;>rfl)|((first|apply qR|apply qS);(conv=>lhs;simp only[go_sem])<;>rfl;rfl)|((first|apply qT|apply qU);(conv=>lhs;simp only[go_sem])<;>rfl;rfl)|apply qV|apply qW|apply qX|apply qY|apply qZ)
            (repeat' with_reducible first |apply qA|apply qB|apply qC|apply qD|apply qE|apply qF|(apply qG;decide)|apply qH|apply qI|apply qJ|apply qK|((first|apply qL|apply qM|apply qN|apply qO|((first|apply qP|apply qQ);decide +kernel));(conv=>lhs;simp only[go_sem, ibin, ishift])<;>rfl)|((first|apply qR|apply qS);(conv=>lhs;simp only[go_sem])<;>rfl;rfl)|((first|apply qT|apply qU);(conv=>lhs;simp only[go_sem])<;>rfl;rfl)|apply qV|apply qW|apply qX|apply qY|apply qZ)
            refine ⟨by first | exact .inr rfl | exact .inl rfl, _, _, (by (conv => lhs; simp only [go_sem, ibin, ishift]) <;> with_reducible rfl), (by (conv => lhs; simp only [go_sem, ibin, ishift]) <;> with_reducible rfl), ?_⟩
            refine ⟨[0, 1, 2], by decide, rfl, ?_⟩
            exact ⟨by rw [hm]; rfl, by rw [hm]; exact (by first | rfl | (simp only [go_sem, Pl.h]; done) | (simp only [go_sem, Pl.h] <;> rfl))⟩
          · have hm : p.move j e t = (⟨p.es, (p.at_.set e.a.toNat 0).set e.b.toNat t.a, p.ds.set j ⟨d.broken, true, t.seq, t.a⟩, IntKind.i64.wrap (p.mv + 1)⟩, ⟨2, t.dev, t.seq, t.a, 0⟩, true) := by simp only [Pl.move, hj]; rw [if_neg k1, if_neg k5, if_neg k4, if_neg k7]
            have k8 : decide (y > 0) = false := by rw [← ey]; exact decide_eq_false k7
            (repeat' with_reducible first |apply qA|apply qB|apply qC|apply qD|apply qE|apply qF|(apply qG;decide)|apply qH|apply qI|apply qJ|apply qK|((first|apply qL|apply qM|apply qN|apply qO|((first|apply qP|apply qQ);decide +kernel));(conv=>lhs;simp only[go_sem, ibin, ishift, b0, b1, b2, hy, cI, k8])<;>rfl)|((first|apply qR|apply qS);(conv=>lhs;simp only[go_sem])<;>rfl;rfl)|((first|apply qT|apply qU);(conv=>lhs;simp only[go_sem])<;>rfl;rfl)|apply qV|apply qW|apply qX|apply qY|apply qZ)
            (repeat' with_reducible first |apply qA|apply qB|apply qC|apply qD|apply qE|apply qF|(apply qG;decide)|apply qH|apply qI|apply qJ|apply qK|((first|apply qL|apply qM|apply qN|apply qO|((first|apply qP|apply qQ);decide +kernel));(conv=>lhs;simp only[go_sem, ibin, ishift])<;>rfl)|((first|apply qR|apply qS);(conv=>lhs;simp only[go_sem])<;>rfl;rfl)|((first|apply qT|apply qU);(conv=>lhs;simp only[go_sem])<;>rfl;rfl)|apply qV|apply qW|apply qX|apply qY|apply qZ)
            (repeat' with_reducible first |apply qA|apply qB|apply qC|apply qD|apply qE|apply qF|(apply qG;decide)|apply qH|apply qI|apply qJ|apply qK|apply qX|((first|apply qR|apply qS);(conv=>lhs;simp only[go_sem])<;>rfl;rfl)|((first|apply qT|apply qU);(conv=>lhs;simp only[go_sem])<;>rfl;rfl)|apply qZ|apply qY|apply qW)
            (with_reducible first | apply W2_sregH [0, 3, 4] [false, false, false, false, false, false, false, false, false, false, false, true, false, true, false, false, false, false, false] | apply W2_regH [0, 3, 4] [false, false, false, false, false, false, false, false, false, false, false, true, false, true, false, false, false, false, false])
            · decide
            · decide
            · rfl
            ((conv => lhs; simp only [go_sem, ibin, ishift, a0, a1, a2, b0, b1, b2, hx, hy, hby, cI, wa]) <;> with_reducible rfl)
            refine EH_go ?_
            (repeat' with_reducible first |apply qA|apply qB|apply qC|apply qD|apply qE|apply qF|(apply qG;decide)|apply qH|apply qI|apply qJ|apply qK|apply qX|((first|apply qR|apply qS);(conv=>lhs;simp only[go_sem])<;>rfl;rfl)|((first|apply qT|apply qU);(conv=>lhs;simp only[go_sem])<;>rfl;rfl)|apply qZ|apply qY|apply qW)
            (with_reducible first | apply W2_sregH [4] [false, false, false, false, true, false, true, false, false, false, false, false, false, false, false, false] | apply W2_regH [4] [false, false, false, false, true, false, true, false, false, false, false, false, false, false, false, false])
            · decide
            · decide
            · rfl
            ((conv => lhs; simp only [go_sem, ibin, ishift, hj, hjl, cV, hsv, List.set_set]) <;> with_reducible rfl)
            refine EH_go ?_
            (repeat' with_reducible first |apply qA|apply qB|apply qC|apply qD|apply qE|apply qF|(apply qG;decide)|apply qH|apply qI|apply qJ|apply qK|((first|apply qL|apply qM|apply qN|apply qO|((first|apply qP|apply qQ);decide +kernel));(conv=>lhs;simp only[go_sem, ibin, ishift])<;>rfl)|((first|apply qR|apply qS);(conv=>lhs;simp only[go_sem])<;>rfl;rfl)|((first|apply qT|apply qU);(conv=>lhs;simp only[go_sem])<;>rfl;rfl)|apply qV|apply qW|apply qX|apply qY|apply qZ)
            refine ⟨by first | exact .inr rfl | exact .inl rfl, _, _, (by (conv => lhs; simp only [go_sem, ibin, ishift]) <;> with_reducible rfl), (by (conv => lhs; simp only [go_sem, ibin, ishift]) <;> with_reducible rfl), ?_⟩
            refine ⟨[0, 1, 2], by decide, rfl, ?_⟩
            rw [hm]
            refine ⟨rfl, ?_⟩
            simp only [List.length_set, List.map_set]
            exact (by first | rfl | ((conv => lhs; simp only [go_sem, ibin, ishift]) <;> rfl))
theorem wu16 (x : Int) (h0 : 0 ≤ x) (h1 : x < 65536) : IntKind.u16.wrap x = x := by
  have : IntKind.u16.wrap x = x % 65536 := rfl
  rw [this]; omega
structure Te.Ok (t : Te) : Prop where
  k : 0 ≤ t.k ∧ t.k < 256
  dev : 0 ≤ t.dev ∧ t.dev < 65536
  seq : 0 ≤ t.seq ∧ t.seq < 65536
  a : 0 ≤ t.a ∧ t.a < 65536
  b : 0 ≤ t.b ∧ t.b < 65536
def Pl.hear (p : Pl) (t : Te) : Pl × Te × Bool :=
  if p.works t.dev = false then (p, Te.nil, false)
  else if t.k = 1 then match p.es[(t.dev - 1).toNat]? with | some e => p.move t.dev.toNat e t | none => (p, Te.nil, false)
  else if t.k = 6 then match p.ds[t.dev.toNat]? with | some d => (p, ⟨7, t.dev, t.seq, d.seq, d.tote⟩, true) | none => (p, Te.nil, false)
  else (p, Te.nil, false)
theorem works_in {p : Pl} {d : Int} (h : p.works d = true) : 1 ≤ d ∧ d < p.ds.length ∧ ∃ x, p.ds[d.toNat]? = some x ∧ x.broken = false := by
  simp only [Pl.works, Bool.and_eq_true, Bool.not_eq_true', Pl.noDev, decide_eq_false_iff_not] at h
  have h2 : d.toNat < p.ds.length := by omega
  refine ⟨by omega, by omega, _, List.getElem?_eq_getElem h2, ?_⟩
  have := h.2
  simp only [brk, List.getElem?_eq_getElem h2] at this
  exact this
theorem hear_spec (c : TabP T) (p : Pl) (hk : p.Ok) (t : Te) (ht : t.Ok) : Ret2 T 3 i_plant_Plant_Hear [.ptr 0 0, t.v] p.h (fun v h' => v = .tup [(p.hear t).2.1.v, .b (p.hear t).2.2] ∧ h' = (p.hear t).1.h) := by
  refine Ret2_fnv c.hear rfl rfl ?_
  unfold Pl.h Te.v
  have wd : IntKind.i64.wrap t.dev = t.dev := wi _ (by have := ht.dev; omega) (by have := ht.dev; omega)
  (repeat' with_reducible first |apply qA|apply qB|apply qC|apply qD|apply qE|apply qF|(apply qG;decide)|apply qH|apply qI|apply qJ|apply qK|((first|apply qL|apply qM|apply qN|apply qO|((first|apply qP|apply qQ);decide +kernel));(conv=>lhs;simp only[go_sem, ibin, ishift])<;>rfl)|((first|apply qR|apply qS);(conv=>lhs;simp only[go_sem])<;>rfl;rfl)|((first|apply qT|apply qU);(conv=>lhs;simp only[go_sem])<;>rfl;rfl)|apply qV|apply qW|apply qX|apply qY|apply qZ)
  (with_reducible((first|apply pA|apply pB|apply pC|apply pD|apply pE|((first|apply pF|apply pG);decide +kernel));(conv=>lhs;simp only[go_sem, ibin, ishift, wd])<;>rfl))
  refine CK_call [0, 1, 2] (works_spec c p t.dev) (by decide) (by simp) rfl rfl (by first | rfl | (simp only [go_sem, Pl.h]; done) | (simp only [go_sem, Pl.h] <;> rfl)) ?_
  rintro v h' ⟨rfl, rfl⟩
  unfold Pl.h
  cases hw : p.works t.dev with
  | false =>
    have hm : p.hear t = (p, Te.nil, false) := by rw [Pl.hear, if_pos hw]
    (with_reducible((first|apply WO2_finw|apply WO2_fina);(conv=>lhs;simp only[go_sem, ibin, ishift])<;>rfl))
    (repeat' with_reducible first |apply qA|apply qB|apply qC|apply qD|apply qE|apply qF|(apply qG;decide)|apply qH|apply qI|apply qJ|apply qK|((first|apply qL|apply qM|apply qN|apply qO|((first|apply qP|apply qQ);decide +kernel));(conv=>lhs;simp only[go_sem, ibin, ishift])<;>rfl)|((first|apply qR|apply qS);(conv=>lhs;simp only[go_sem])<;>rfl;rfl)|((first|apply qT|apply qU);(conv=>lhs;simp only[go_sem])<;>rfl;rfl)|apply qV|apply qW|apply qX|apply qY|apply qZ)
    refine ⟨by first | exact .inr rfl | exact .inl rfl, _, _, (by (conv => lhs; simp only [go_sem, ibin, ishift]) <;> with_reducible rfl), (by (conv => lhs; simp only [go_sem, ibin, ishift]) <;> with_reducible rfl), ?_⟩
    refine ⟨[0, 1, 2], by decide, rfl, ?_⟩
    exact ⟨by rw [hm]; rfl, by rw [hm]; exact (by first | rfl | (simp only [go_sem, Pl.h]; done) | (simp only [go_sem, Pl.h] <;> rfl))⟩
  | true =>
    obtain ⟨r1, r2, d, hd, hb⟩ := works_in hw
    have r0 : 0 ≤ t.dev := by omega
    have r3 : t.dev.toNat < p.ds.length := by omega
    have hdl := hk.dl
    have r4 : (t.dev - 1).toNat < p.es.length := by omega
    have r5 : 0 ≤ t.dev - 1 := by omega
    have r6 : t.dev - 1 < (p.es.length : Int) := by omega
    have wd1 : IntKind.u16.wrap (t.dev - 1) = t.dev - 1 := wu16 _ (by omega) (by have := ht.dev; omega)
    obtain ⟨e, he⟩ : ∃ e, p.es[(t.dev - 1).toNat]? = some e := ⟨_, List.getElem?_eq_getElem r4⟩
    (with_reducible((first|apply WO2_finw|apply WO2_fina);(conv=>lhs;simp only[go_sem, ibin, ishift])<;>rfl))
    (repeat' with_reducible first |apply qA|apply qB|apply qC|apply qD|apply qE|apply qF|(apply qG;decide)|apply qH|apply qI|apply qJ|apply qK|((first|apply qL|apply qM|apply qN|apply qO|((first|apply qP|apply qQ);decide +kernel));(conv=>lhs;simp only[go_sem, ibin, ishift, r0, r2, r3])<;>rfl)|((first|apply qR|apply qS);(conv=>lhs;simp only[go_sem])<;>rfl;rfl)|((first|apply qT|apply qU);(conv=>lhs;simp only[go_sem])<;>rfl;rfl)|apply qV|apply qW|apply qX|apply qY|apply qZ)
    by_cases k1 : t.k = 1
    · have hm : p.hear t = p.move t.dev.toNat e t := by rw [Pl.hear, if_neg (by rw [hw]; decide), if_pos k1, he]
      rw [decide_eq_true k1]
      (repeat' with_reducible first |apply qA|apply qB|apply qC|apply qD|apply qE|apply qF|(apply qG;decide)|apply qH|apply qI|apply qJ|apply qK|((first|apply qL|apply qM|apply qN|apply qO|((first|apply qP|apply qQ);decide +kernel));(conv=>lhs;simp only[go_sem, ibin, ishift])<;>rfl)|((first|apply qR|apply qS);(conv=>lhs;simp only[go_sem])<;>rfl;rfl)|((first|apply qT|apply qU);(conv=>lhs;simp only[go_sem])<;>rfl;rfl)|apply qV|apply qW|apply qX|apply qY|apply qZ)
      (with_reducible((first|apply pA|apply pB|apply pC|apply pD|apply pE|((first|apply pF|apply pG);decide +kernel));(conv=>lhs;simp only[go_sem, ibin, ishift, r5, r6, r4, wd1, he, cD])<;>rfl))
      refine CK_call [0, 1, 2] (move_spec c p hk.al hd e (hk.ed e (List.mem_of_getElem? he)) t ht.a) (by decide) (by simp) rfl rfl (by first | rfl | (simp only [go_sem, Pl.h, Te.v]; done) | (simp only [go_sem, Pl.h, Te.v] <;> rfl)) ?_
      rintro v h' ⟨rfl, rfl⟩
      generalize p.move t.dev.toNat e t = r at hm
      obtain ⟨p2, u, ok⟩ := r
      unfold Pl.h Te.v
      (with_reducible((first|apply WO2_finw|apply WO2_fina);(conv=>lhs;simp only[go_sem, ibin, ishift])<;>rfl))
      (repeat' with_reducible first |apply qA|apply qB|apply qC|apply qD|apply qE|apply qF|(apply qG;decide)|apply qH|apply qI|apply qJ|apply qK|((first|apply qL|apply qM|apply qN|apply qO|((first|apply qP|apply qQ);decide +kernel));(conv=>lhs;simp only[go_sem, ibin, ishift])<;>rfl)|((first|apply qR|apply qS);(conv=>lhs;simp only[go_sem])<;>rfl;rfl)|((first|apply qT|apply qU);(conv=>lhs;simp only[go_sem])<;>rfl;rfl)|apply qV|apply qW|apply qX|apply qY|apply qZ)
      refine ⟨by first | exact .inr rfl | exact .inl rfl, _, _, (by (conv => lhs; simp only [go_sem, ibin, ishift]) <;> with_reducible rfl), (by (conv => lhs; simp only [go_sem, ibin, ishift]) <;> with_reducible rfl), ?_⟩
      refine ⟨[0, 1, 2], by decide, rfl, ?_⟩
      exact ⟨by rw [hm]; rfl, by rw [hm]; exact (by first | rfl | (simp only [go_sem, Pl.h]; done) | (simp only [go_sem, Pl.h] <;> rfl))⟩
    · rw [decide_eq_false k1]
      (repeat' with_reducible first |apply qA|apply qB|apply qC|apply qD|apply qE|apply qF|(apply qG;decide)|apply qH|apply qI|apply qJ|apply qK|((first|apply qL|apply qM|apply qN|apply qO|((first|apply qP|apply qQ);decide +kernel));(conv=>lhs;simp only[go_sem, ibin, ishift])<;>rfl)|((first|apply qR|apply qS);(conv=>lhs;simp only[go_sem])<;>rfl;rfl)|((first|apply qT|apply qU);(conv=>lhs;simp only[go_sem])<;>rfl;rfl)|apply qV|apply qW|apply qX|apply qY|apply qZ)
      by_cases k2 : t.k = 6
      · have hm : p.hear t = (p, ⟨7, t.dev, t.seq, d.seq, d.tote⟩, true) := by rw [Pl.hear, if_neg (by rw [hw]; decide), if_neg k1, if_pos k2, hd]
        rw [decide_eq_true k2]
        (repeat' with_reducible first |apply qA|apply qB|apply qC|apply qD|apply qE|apply qF|(apply qG;decide)|apply qH|apply qI|apply qJ|apply qK|((first|apply qL|apply qM|apply qN|apply qO|((first|apply qP|apply qQ);decide +kernel));(conv=>lhs;simp only[go_sem, ibin, ishift, hd, r3, cV])<;>rfl)|((first|apply qR|apply qS);(conv=>lhs;simp only[go_sem])<;>rfl;rfl)|((first|apply qT|apply qU);(conv=>lhs;simp only[go_sem])<;>rfl;rfl)|apply qV|apply qW|apply qX|apply qY|apply qZ)
        (repeat' with_reducible first |apply qA|apply qB|apply qC|apply qD|apply qE|apply qF|(apply qG;decide)|apply qH|apply qI|apply qJ|apply qK|((first|apply qL|apply qM|apply qN|apply qO|((first|apply qP|apply qQ);decide +kernel));(conv=>lhs;simp only[go_sem, ibin, ishift])<;>rfl)|((first|apply qR|apply qS);(conv=>lhs;simp only[go_sem])<;>rfl;rfl)|((first|apply qT|apply qU);(conv=>lhs;simp only[go_sem])<;>rfl;rfl)|apply qV|apply qW|apply qX|apply qY|apply qZ)
        refine ⟨by first | exact .inr rfl | exact .inl rfl, _, _, (by (conv => lhs; simp only [go_sem, ibin, ishift]) <;> with_reducible rfl), (by (conv => lhs; simp only [go_sem, ibin, ishift]) <;> with_reducible rfl), ?_⟩
        refine ⟨[0, 1, 2], by decide, rfl, ?_⟩
        exact ⟨by rw [hm]; rfl, by rw [hm]; exact (by first | rfl | (simp only [go_sem, Pl.h]; done) | (simp only [go_sem, Pl.h] <;> rfl))⟩
      · have hm : p.hear t = (p, Te.nil, false) := by rw [Pl.hear, if_neg (by rw [hw]; decide), if_neg k1, if_neg k2]
        rw [decide_eq_false k2]
        (repeat' with_reducible first |apply qA|apply qB|apply qC|apply qD|apply qE|apply qF|(apply qG;decide)|apply qH|apply qI|apply qJ|apply qK|((first|apply qL|apply qM|apply qN|apply qO|((first|apply qP|apply qQ);decide +kernel));(conv=>lhs;simp only[go_sem, ibin, ishift])<;>rfl)|((first|apply qR|apply qS);(conv=>lhs;simp only[go_sem])<;>rfl;rfl)|((first|apply qT|apply qU);(conv=>lhs;simp only[go_sem])<;>rfl;rfl)|apply qV|apply qW|apply qX|apply qY|apply qZ)
        refine ⟨by first | exact .inr rfl | exact .inl rfl, _, _, (by (conv => lhs; simp only [go_sem, ibin, ishift]) <;> with_reducible rfl), (by (conv => lhs; simp only [go_sem, ibin, ishift]) <;> with_reducible rfl), ?_⟩
        refine ⟨[0, 1, 2], by decide, rfl, ?_⟩
        exact ⟨by rw [hm]; rfl, by rw [hm]; exact (by first | rfl | (simp only [go_sem, Pl.h]; done) | (simp only [go_sem, Pl.h] <;> rfl))⟩
end Go.Proofs.Ytpblhjaghkkdhaa.Ab
