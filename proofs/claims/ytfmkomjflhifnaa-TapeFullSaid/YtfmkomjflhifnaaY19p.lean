/- Chapter 19: plain law: a tape is the document's. -/
import Derived.Test.YtfmkomjflhifnaaY19o
namespace Go.Proofs.Ytfmkomjflhifnaa.Ab
open Go
set_option linter.unusedVariables false
def Tp.oth (p : Tp) : List UInt8 := p.area (!p.c)
/-- power that is left is the same -/
def Pw (armed : Bool) (bud : Int) (rbud : Int) : Prop := if armed = true then bud = rbud ∧ 0 ≤ bud ∧ bud ≤ 1099511627776 else rbud = -1
structure Sim (p : Tp) (r : Rt) : Prop where
  now : p.now = r.now
  oth : p.oth = r.oth
  pw : Pw p.armed p.bud r.bud
  dead : p.dead = r.dead
  l1 : p.now.length ≤ 65536
  l2 : p.oth.length ≤ 65536
theorem area_free (p : Tp) (i x : Bool) (b : Int) (d : Bool) : (Tp.mk p.a p.b p.c x b d).area i = p.area i := by cases i <;> rfl
theorem puts_dead {p : Tp} (h : p.dead = true) (i : Bool) : ∀ l, p.puts i l = p
  | [] => rfl
  | x :: l => by
    show (p.unit _).puts i l = p
    rw [show p.unit (fun q => q.put1 i (q.area i ++ [x])) = p by rw [Tp.unit, if_pos h]]
    exact puts_dead h i l
theorem unit_free {p : Tp} (h : p.dead = false) (ha : p.armed = false) (f : Tp → Tp) : p.unit f = f ⟨p.a, p.b, p.c, false, IntKind.i64.wrap (p.bud - 1), false⟩ := by
  rw [Tp.unit, if_neg (by rw [h]; decide), if_neg (by rw [ha]; rintro ⟨h, _⟩; cases h), ha]
theorem unit_out {p : Tp} (h : p.dead = false) (ha : p.armed = true) (hb : p.bud = 0) (f : Tp → Tp) : p.unit f = ⟨p.a, p.b, p.c, true, 0, true⟩ := by
  rw [Tp.unit, if_neg (by rw [h]; decide), if_pos ⟨ha, hb⟩, ha, hb]
theorem unit_on {p : Tp} (h : p.dead = false) (ha : p.armed = true) (hb : 0 < p.bud) (hb2 : p.bud ≤ 1099511627776) (f : Tp → Tp) : p.unit f = f ⟨p.a, p.b, p.c, true, p.bud - 1, false⟩ := by
  rw [Tp.unit, if_neg (by rw [h]; decide), if_neg (by omega), ha, wi _ (by omega) (by omega)]
theorem put1_fields (i : Bool) (l : List UInt8) (p : Tp) : (p.put1 i l).c = p.c ∧ (p.put1 i l).armed = p.armed ∧ (p.put1 i l).bud = p.bud ∧ (p.put1 i l).dead = p.dead := by cases i <;> exact ⟨rfl, rfl, rfl, rfl⟩
/-- bytes are put without a budget -/
theorem puts_free (i : Bool) : ∀ (l : List UInt8) (p : Tp), p.dead = false → p.armed = false →
    (p.puts i l).area i = p.area i ++ l ∧ (p.puts i l).area (!i) = p.area (!i) ∧ (p.puts i l).c = p.c ∧ (p.puts i l).armed = false ∧ (p.puts i l).dead = false
  | [], p, h, ha => ⟨by simp [Tp.puts], rfl, rfl, ha, h⟩
  | x :: l, p, h, ha => by
    have hu := unit_free h ha fun q => q.put1 i (q.area i ++ [x])
    have e : p.puts i (x :: l) = Tp.puts (Tp.put1 i ((Tp.mk p.a p.b p.c false (IntKind.i64.wrap (p.bud - 1)) false).area i ++ [x]) ⟨p.a, p.b, p.c, false, IntKind.i64.wrap (p.bud - 1), false⟩) i l := by
      show (p.unit _).puts i l = _
      rw [hu]
    have f := put1_fields i ((Tp.mk p.a p.b p.c false (IntKind.i64.wrap (p.bud - 1)) false).area i ++ [x]) ⟨p.a, p.b, p.c, false, IntKind.i64.wrap (p.bud - 1), false⟩
    obtain ⟨h1, h2, h3, h4, h5⟩ := puts_free i l _ f.2.2.2 f.2.1
    rw [e]
    refine ⟨?_, ?_, h3.trans f.1, h4, h5⟩
    · rw [h1, area_put, area_free]; simp
    · rw [h2, area_put2, area_free]
/-- bytes are put with a budget -/
theorem puts_on (i : Bool) : ∀ (l : List UInt8) (p : Tp), p.dead = false → p.armed = true → 0 ≤ p.bud → p.bud ≤ 1099511627776 →
    (p.puts i l).area i = p.area i ++ l.take p.bud.toNat ∧ (p.puts i l).area (!i) = p.area (!i) ∧ (p.puts i l).c = p.c ∧ (p.puts i l).armed = true ∧ (p.puts i l).dead = decide (p.bud < (l.length : Int)) ∧ (p.puts i l).bud = (if (l.length : Int) ≤ p.bud then p.bud - l.length else 0)
  | [], p, h, ha, hb, _ => ⟨by simp [Tp.puts], rfl, rfl, ha, by rw [show p.puts i [] = p from rfl, h, decide_eq_false (by simp; omega)], by rw [if_pos (by simpa using hb), show p.puts i [] = p from rfl]; simp⟩
  | x :: l, p, h, ha, hb, hb2 => by
    by_cases h0 : p.bud = 0
    · have hu := unit_out h ha h0 fun q => q.put1 i (q.area i ++ [x])
      have e : p.puts i (x :: l) = ⟨p.a, p.b, p.c, true, 0, true⟩ := by
        show (p.unit _).puts i l = _
        rw [hu]
        exact puts_dead rfl i l
      rw [e, h0]
      exact ⟨by rw [area_free]; simp, by rw [area_free], rfl, rfl, by rw [decide_eq_true (by simp only [List.length_cons]; omega)], by rw [if_neg (by simp only [List.length_cons]; omega)]⟩
    · have hu := unit_on h ha (by omega) hb2 fun q => q.put1 i (q.area i ++ [x])
      have e : p.puts i (x :: l) = Tp.puts (Tp.put1 i ((Tp.mk p.a p.b p.c true (p.bud - 1) false).area i ++ [x]) ⟨p.a, p.b, p.c, true, p.bud - 1, false⟩) i l := by
        show (p.unit _).puts i l = _
        rw [hu]
      have f := put1_fields i ((Tp.mk p.a p.b p.c true (p.bud - 1) false).area i ++ [x]) ⟨p.a, p.b, p.c, true, p.bud - 1, false⟩
      have hf3 : (Tp.put1 i ((Tp.mk p.a p.b p.c true (p.bud - 1) false).area i ++ [x]) ⟨p.a, p.b, p.c, true, p.bud - 1, false⟩).bud = p.bud - 1 := f.2.2.1
      obtain ⟨h1, h2, h3, h4, h5, h6⟩ := puts_on i l _ f.2.2.2 f.2.1 (by omega) (by omega)
      rw [e]
      refine ⟨?_, ?_, h3.trans f.1, h4, ?_, ?_⟩
      · rw [h1, hf3, area_put, area_free, List.append_assoc]
        congr 1
        rw [show p.bud.toNat = (p.bud - 1).toNat + 1 by omega]; rfl
      · rw [h2, area_put2, area_free]
      · rw [h5, hf3, decide_eq_decide]
        simp only [List.length_cons]; omega
      · rw [h6, hf3]
        simp only [List.length_cons]
        by_cases hh : (l.length : Int) ≤ p.bud - 1
        · rw [if_pos hh, if_pos (by omega)]; omega
        · rw [if_neg hh, if_neg (by omega)]
section
variable {p : Tp} {r : Rt}
theorem puts_sim (hp : Pw p.armed p.bud r.bud) (hd : p.dead = false) (hr : r.dead = false) (i : Bool) (l : List UInt8) :
    (p.puts i l).area i = p.area i ++ l.take (r.some l.length).2 ∧ (p.puts i l).area (!i) = p.area (!i) ∧ (p.puts i l).c = p.c ∧ Pw (p.puts i l).armed (p.puts i l).bud (r.some l.length).1.bud ∧ (p.puts i l).dead = (r.some l.length).1.dead := by
  unfold Pw at hp
  cases ha : p.armed with
  | false =>
    rw [ha, if_neg (by decide)] at hp
    obtain ⟨h1, h2, h3, h4, h5⟩ := puts_free i l p hd ha
    rw [h4, h5, h2, h3]
    have e : r.some l.length = (⟨r.now, r.oth, r.bud, r.dead⟩, l.length) := by
      rw [Rt.some, if_pos (.inl (by omega)), if_neg (by omega)]
    rw [e]
    refine ⟨by rw [h1, List.take_length], rfl, rfl, ?_, hr.symm⟩
    rw [Pw, if_neg (by decide)]; exact hp
  | true =>
    rw [ha, if_pos rfl] at hp
    obtain ⟨e1, e2, e3⟩ := hp
    obtain ⟨h1, h2, h3, h4, h5, h6⟩ := puts_on i l p hd ha e2 e3
    rw [h4, h5, h2, h3, h6, h1]
    by_cases hl : (l.length : Int) ≤ p.bud
    · have e : r.some l.length = (⟨r.now, r.oth, r.bud - l.length, r.dead⟩, l.length) := by
        rw [Rt.some, if_pos (.inr (by omega)), if_pos (by omega)]
      rw [e, if_pos hl]
      refine ⟨by rw [List.take_of_length_le (by omega), List.take_length], rfl, rfl, ?_, by simp only [hr]; exact decide_eq_false (by omega)⟩
      rw [Pw, if_pos rfl]; simp only; omega
    · have e : r.some l.length = (⟨r.now, r.oth, 0, true⟩, r.bud.toNat) := by
        rw [Rt.some, if_neg (show ¬(r.bud < 0 ∨ (l.length : Int) ≤ r.bud) by omega)]
      rw [e, if_neg hl]
      refine ⟨by simp only [e1], rfl, rfl, ?_, decide_eq_true (by omega)⟩
      rw [Pw, if_pos rfl]; exact ⟨rfl, by decide, by decide⟩
theorem unit_sim (hp : Pw p.armed p.bud r.bud) (hd : p.dead = false) (hr : r.dead = false) (f : Tp → Tp) :
    ∃ x b, Pw x b (r.some 1).1.bud ∧ p.unit f = if (r.some 1).1.dead = true then ⟨p.a, p.b, p.c, x, b, true⟩ else f ⟨p.a, p.b, p.c, x, b, false⟩ := by
  unfold Pw at hp
  cases ha : p.armed with
  | false =>
    rw [ha, if_neg (by decide)] at hp
    have e : r.some 1 = (⟨r.now, r.oth, r.bud, r.dead⟩, 1) := by
      rw [Rt.some, if_pos (.inl (by omega)), if_neg (by omega)]
    refine ⟨false, IntKind.i64.wrap (p.bud - 1), by rw [e, Pw, if_neg (by decide)]; exact hp, ?_⟩
    rw [unit_free hd ha, e, if_neg (by simp only [hr]; decide)]
  | true =>
    rw [ha, if_pos rfl] at hp
    obtain ⟨e1, e2, e3⟩ := hp
    by_cases h0 : p.bud = 0
    · have e : r.some 1 = (⟨r.now, r.oth, 0, true⟩, r.bud.toNat) := by
        rw [Rt.some, if_neg (show ¬(r.bud < 0 ∨ ((1 : Nat) : Int) ≤ r.bud) by omega)]
      refine ⟨true, 0, by rw [e, Pw, if_pos rfl]; simp, ?_⟩
      rw [unit_out hd ha h0, e, if_pos rfl]
    · have e : r.some 1 = (⟨r.now, r.oth, r.bud - 1, r.dead⟩, 1) := by
        rw [Rt.some, if_pos (.inr (by omega)), if_pos (by omega)]; rfl
      refine ⟨true, p.bud - 1, by rw [e, Pw, if_pos rfl]; simp only; omega, ?_⟩
      rw [unit_on hd ha (by omega) e3, e, if_neg (by simp only [hr]; decide)]
theorem Sim.new : Sim Tp.new Rt.new := ⟨rfl, rfl, rfl, rfl, Nat.zero_le _, Nat.zero_le _⟩
theorem Sim.bd (h : Sim p r) : r.Bd := by
  have := h.pw
  unfold Pw at this
  unfold Rt.Bd
  split at this <;> omega
theorem Sim.arm (h : Sim p r) (n : Int) : (p.arm n).2 = (r.arm n).2 ∧ Sim (p.arm n).1 (r.arm n).1 := by
  unfold Tp.arm Rt.arm
  rw [h.dead]
  by_cases hd : r.dead = true
  · rw [if_pos hd, if_pos hd]; exact ⟨rfl, h⟩
  rw [if_neg hd, if_neg hd]
  by_cases hn : n < 0 ∨ n > 1099511627776
  · rw [if_pos hn, if_pos hn]; exact ⟨rfl, h⟩
  rw [if_neg hn, if_neg hn]
  refine ⟨rfl, ?_, ?_, ?_, h.dead ▸ rfl, ?_, ?_⟩
  · rw [← h.now]; exact area_free p p.c true n _
  · rw [← h.oth]; exact area_free p (!p.c) true n _
  · simp only; rw [Pw, if_pos rfl]; omega
  · rw [show Tp.now ⟨p.a, p.b, p.c, true, n, r.dead⟩ = p.now from area_free p p.c true n _]; exact h.l1
  · rw [show Tp.oth ⟨p.a, p.b, p.c, true, n, r.dead⟩ = p.oth from area_free p (!p.c) true n _]; exact h.l2
theorem Sim.crash (h : Sim p r) : Sim p.crash r.crash :=
  ⟨(area_free p p.c false 0 false).trans h.now, (area_free p (!p.c) false 0 false).trans h.oth, rfl, rfl, by rw [show p.crash.now = p.now from area_free p p.c false 0 false]; exact h.l1, by rw [show p.crash.oth = p.oth from area_free p (!p.c) false 0 false]; exact h.l2⟩
theorem take_len_le (l : List UInt8) (k : Nat) : (l.take k).length ≤ l.length := by rw [List.length_take]; omega
theorem Sim.append (h : Sim p r) (n : Nat) (l : List Nt) : (p.append n l).2 = (r.append n l).2 ∧ Sim (p.append n l).1 (r.append n l).1 := by
  unfold Tp.append Rt.append
  rw [h.dead, h.now]
  cases hd : r.dead with
  | true => rw [if_pos rfl, if_pos rfl]; exact ⟨rfl, h⟩
  | false =>
  simp only [Bool.false_eq_true, if_false]
  by_cases h1 : ¬(∀ x ∈ l, goodN x)
  · rw [if_pos h1, if_pos h1]; exact ⟨rfl, h⟩
  rw [if_neg h1, if_neg h1]
  by_cases h2 : n < r.now.length
  · rw [if_pos h2, if_pos h2]; exact ⟨rfl, h⟩
  rw [if_neg h2, if_neg h2]
  by_cases h3 : 65536 < r.now.length + (encsB l).length
  · rw [if_pos h3, if_pos h3]; exact ⟨rfl, h⟩
  rw [if_neg h3, if_neg h3]
  obtain ⟨a1, a2, a3, a4, a5⟩ := puts_sim h.pw (h.dead.trans hd) hd p.c (encsB l)
  have hk := take_len_le (encsB l) (r.some (encsB l).length).2
  have hn : (p.puts p.c (encsB l)).now = r.now ++ (encsB l).take (r.some (encsB l).length).2 := by
    rw [Tp.now, a3, a1, ← h.now]; rfl
  have ho : (p.puts p.c (encsB l)).oth = r.oth := by rw [Tp.oth, a3, a2]; exact h.oth
  refine ⟨by simp only [Tp.st, Rt.code, a5], hn, by rw [ho]; exact (some_now r _).2.symm, a4, a5, by rw [hn, List.length_append]; omega, by rw [ho, ← h.oth]; exact h.l2⟩
theorem Sim.repair (h : Sim p r) (n : Nat) (hn : n ≤ r.now.length) : (p.repair n).2 = (r.repair n).2 ∧ Sim (p.repair n).1 (r.repair n).1 := by
  unfold Tp.repair Rt.repair Tp.cut
  have hnow := h.now
  rw [h.dead]
  cases hd : r.dead with
  | true => rw [if_pos rfl, if_pos rfl]; exact ⟨rfl, h⟩
  | false =>
  simp only [Bool.false_eq_true, if_false]
  rw [show p.area p.c = r.now from hnow]
  by_cases h1 : n < r.now.length
  · rw [if_pos h1, if_pos h1]
    obtain ⟨x, b, hp, hu⟩ := unit_sim h.pw (h.dead.trans hd) hd fun q => q.put1 p.c ((q.area p.c).take n)
    have hsn := some_now r 1
    rw [hu]
    by_cases h2 : (r.some 1).1.dead = true
    · rw [if_pos h2, if_pos rfl, if_pos h2]
      refine ⟨rfl, ?_, ?_, hp, h2.symm, ?_, ?_⟩
      · rw [hsn.1, ← hnow]; exact area_free p p.c _ _ _
      · rw [hsn.2, ← h.oth]; exact area_free p (!p.c) _ _ _
      · rw [show Tp.now ⟨p.a, p.b, p.c, x, b, true⟩ = p.now from area_free p p.c _ _ _]; exact h.l1
      · rw [show Tp.oth ⟨p.a, p.b, p.c, x, b, true⟩ = p.oth from area_free p (!p.c) _ _ _]; exact h.l2
    · rw [if_neg h2]
      have f := put1_fields p.c (((Tp.mk p.a p.b p.c x b false).area p.c).take n) ⟨p.a, p.b, p.c, x, b, false⟩
      have fd : (Tp.put1 p.c (((Tp.mk p.a p.b p.c x b false).area p.c).take n) ⟨p.a, p.b, p.c, x, b, false⟩).dead = false := f.2.2.2
      rw [fd, if_neg h2]
      simp only [Bool.false_eq_true, if_false]
      have e1 : (Tp.put1 p.c (((Tp.mk p.a p.b p.c x b false).area p.c).take n) ⟨p.a, p.b, p.c, x, b, false⟩).now = r.now.take n := by
        rw [Tp.now, f.1, area_put, area_free]; congr 1
      have e2 : (Tp.put1 p.c (((Tp.mk p.a p.b p.c x b false).area p.c).take n) ⟨p.a, p.b, p.c, x, b, false⟩).oth = r.oth := by
        rw [Tp.oth, f.1, area_put2, area_free]; exact h.oth
      refine ⟨by rw [hnow], e1, e2, by rw [f.2.1, f.2.2.1]; exact hp, ?_, ?_, ?_⟩
      · rw [f.2.2.2]; simp only; exact (Bool.not_eq_true _ ▸ h2).symm
      · rw [e1, ← hnow]; exact Nat.le_trans (take_len_le _ _) h.l1
      · rw [e2, ← h.oth]; exact h.l2
  · rw [if_neg h1, if_neg h1, if_neg (by rw [h.dead, hd]; decide)]
    exact ⟨by rw [hnow], h⟩
theorem Sim.compact (h : Sim p r) (l : List Nt) : (p.compact l).2 = (r.compact l).2 ∧ Sim (p.compact l).1 (r.compact l).1 := by
  unfold Tp.compact Rt.compact
  rw [h.dead]
  cases hd : r.dead with
  | true => rw [if_pos rfl, if_pos rfl]; exact ⟨rfl, h⟩
  | false =>
  simp only [Bool.false_eq_true, if_false]
  by_cases h1 : ¬(∀ x ∈ l, goodN x)
  · rw [if_pos h1, if_pos h1]; exact ⟨rfl, h⟩
  rw [if_neg h1, if_neg h1]
  by_cases h3 : 65536 < (encsB l).length
  · rw [if_pos h3, if_pos h3]; exact ⟨rfl, h⟩
  rw [if_neg h3, if_neg h3]
  generalize encsB l = bs at h3
  -- the other area is emptied
  have hemp : Sim (p.cut (!p.c) 0) r.emp ∧ (p.cut (!p.c) 0).c = p.c ∧ (r.emp.dead = false → r.emp.oth = []) ∧ r.emp.now = r.now := by
    unfold Tp.cut Rt.emp
    have hoth : p.area (!p.c) = r.oth := h.oth
    rw [hoth]
    by_cases c1 : 0 < r.oth.length
    · rw [if_pos c1, if_pos c1]
      obtain ⟨x, b, hp, hu⟩ := unit_sim h.pw (h.dead.trans hd) hd fun q => q.put1 (!p.c) ((q.area (!p.c)).take 0)
      have hsn := some_now r 1
      rw [hu]
      by_cases h2 : (r.some 1).1.dead = true
      · rw [if_pos h2, if_pos h2]
        refine ⟨⟨?_, ?_, hp, h2.symm, ?_, ?_⟩, rfl, fun h => (by rw [h2] at h; cases h), hsn.1⟩
        · rw [hsn.1, ← h.now]; exact area_free p p.c _ _ _
        · rw [hsn.2, ← h.oth]; exact area_free p (!p.c) _ _ _
        · rw [show Tp.now ⟨p.a, p.b, p.c, x, b, true⟩ = p.now from area_free p p.c _ _ _]; exact h.l1
        · rw [show Tp.oth ⟨p.a, p.b, p.c, x, b, true⟩ = p.oth from area_free p (!p.c) _ _ _]; exact h.l2
      · rw [if_neg h2, if_neg h2]
        have f := put1_fields (!p.c) (((Tp.mk p.a p.b p.c x b false).area (!p.c)).take 0) ⟨p.a, p.b, p.c, x, b, false⟩
        have e1 : (Tp.put1 (!p.c) (((Tp.mk p.a p.b p.c x b false).area (!p.c)).take 0) ⟨p.a, p.b, p.c, x, b, false⟩).now = r.now := by
          have e := area_put2 (!p.c) (((Tp.mk p.a p.b p.c x b false).area (!p.c)).take 0) ⟨p.a, p.b, p.c, x, b, false⟩
          rw [Bool.not_not, area_free] at e
          rw [Tp.now, f.1]; exact e.trans h.now
        have e2 : (Tp.put1 (!p.c) (((Tp.mk p.a p.b p.c x b false).area (!p.c)).take 0) ⟨p.a, p.b, p.c, x, b, false⟩).oth = [] := by
          rw [Tp.oth, f.1, area_put]; rfl
        refine ⟨⟨e1, e2, by rw [f.2.1, f.2.2.1]; exact hp, ?_, by rw [e1, ← h.now]; exact h.l1, by rw [e2]; exact Nat.zero_le _⟩, f.1, fun _ => rfl, rfl⟩
        rw [f.2.2.2]; simp only; exact (Bool.not_eq_true _ ▸ h2).symm
    · rw [if_neg c1, if_neg c1]
      exact ⟨h, rfl, fun _ => List.eq_nil_of_length_eq_zero (by omega), rfl⟩
  unfold Tp.comp
  obtain ⟨hs, hc, hne, hnow⟩ := hemp
  have hc2 : (!p.c) = !(p.cut (!p.c) 0).c := by rw [hc]
  generalize p.cut (!p.c) 0 = q at hs hc hc2
  rw [hc2]
  generalize r.emp = s at hs hne hnow
  cases hsd : s.dead with
  | true =>
    have hqd := hs.dead.trans hsd
    simp only [if_true]
    rw [puts_dead hqd, show q.unit (Tp.turn (!q.c)) = q by rw [Tp.unit, if_pos hqd]]
    exact ⟨by rw [Tp.st, if_pos hqd], hs⟩
  | false =>
  simp only [Bool.false_eq_true, if_false]
  obtain ⟨a1, a2, a3, a4, a5⟩ := puts_sim hs.pw (hs.dead.trans hsd) hsd (!q.c) bs
  have hk := take_len_le bs (s.some bs.length).2
  have hoth : q.area (!q.c) = [] := hs.oth.trans (hne hsd)
  rw [hoth, List.nil_append] at a1
  rw [Bool.not_not] at a2
  have hsn := some_now s bs.length
  have hfill : Sim (q.puts (!q.c) bs) (s.fill bs) := by
    refine ⟨by rw [Tp.now, a3, a2]; exact hs.now, by rw [Tp.oth, a3, a1]; rfl, a4, a5, ?_, ?_⟩
    · rw [Tp.now, a3, a2]; exact hs.l1
    · rw [Tp.oth, a3, a1]; omega
  rw [show (!q.c) = !(q.puts (!q.c) bs).c by rw [a3]]
  generalize hgq : q.puts (!q.c) bs = q2 at hfill a3
  rw [show (!q2.c) = !q.c by rw [a3], hgq, show (!q.c) = !q2.c by rw [a3]]
  generalize s.fill bs = s2 at hfill
  cases hsd2 : s2.dead with
  | true =>
    have hqd := hfill.dead.trans hsd2
    simp only [if_true]
    rw [show q2.unit (Tp.turn (!q2.c)) = q2 by rw [Tp.unit, if_pos hqd]]
    exact ⟨by rw [Tp.st, if_pos hqd], hfill⟩
  | false =>
  simp only [Bool.false_eq_true, if_false]
  obtain ⟨x, b, hp, hu⟩ := unit_sim hfill.pw (hfill.dead.trans hsd2) hsd2 (Tp.turn (!q2.c))
  have hsn := some_now s2 1
  rw [hu]
  unfold Rt.turn
  by_cases h2 : (s2.some 1).1.dead = true
  · rw [if_pos h2, if_pos h2]
    refine ⟨by rw [Rt.code, if_pos h2]; rfl, ?_, ?_, hp, h2.symm, ?_, ?_⟩
    · rw [hsn.1, ← hfill.now]; exact area_free q2 q2.c _ _ _
    · rw [hsn.2, ← hfill.oth]; exact area_free q2 (!q2.c) _ _ _
    · rw [show Tp.now ⟨q2.a, q2.b, q2.c, x, b, true⟩ = q2.now from area_free q2 q2.c _ _ _]; exact hfill.l1
    · rw [show Tp.oth ⟨q2.a, q2.b, q2.c, x, b, true⟩ = q2.oth from area_free q2 (!q2.c) _ _ _]; exact hfill.l2
  · rw [if_neg h2, if_neg h2]
    have e1 : (Tp.turn (!q2.c) ⟨q2.a, q2.b, q2.c, x, b, false⟩).now = q2.oth := by
      show (Tp.mk q2.a q2.b (!q2.c) x b false).area (!q2.c) = q2.area (!q2.c)
      cases q2.c <;> rfl
    have e2 : (Tp.turn (!q2.c) ⟨q2.a, q2.b, q2.c, x, b, false⟩).oth = q2.now := by
      show (Tp.mk q2.a q2.b (!q2.c) x b false).area (!(!q2.c)) = q2.area q2.c
      cases q2.c <;> rfl
    have hdd : (s2.some 1).1.dead = false := Bool.not_eq_true _ ▸ h2
    refine ⟨by rw [Rt.code, if_neg (by rw [hdd]; decide)]; rfl, e1.trans hfill.oth, e2.trans hfill.now, hp, hdd.symm, by rw [e1]; exact hfill.l2, by rw [e2]; exact hfill.l1⟩
end
end Go.Proofs.Ytfmkomjflhifnaa.Ab
