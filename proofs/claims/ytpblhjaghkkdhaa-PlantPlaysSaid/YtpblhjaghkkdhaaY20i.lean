/- Chapter 20: plain law: where totes are. -/
import Derived.Test.YtpblhjaghkkdhaaY20e
namespace Go.Proofs.Ytpblhjaghkkdhaa.Ab
open Go
set_option linter.unusedVariables false
/-- no tote stands twice -/
structure Uq (l : List Int) : Prop where
  u : ∀ (i j : Nat) x, l[i]? = some x → l[j]? = some x → x ≠ 0 → i = j
  b : ∀ x ∈ l, 0 ≤ x ∧ x ≤ 30
theorem ixOf_ge (x : Int) : ∀ (l : List Int) (j : Nat), ixOf x l j = -1 ∨ (j : Int) ≤ ixOf x l j
  | [], j => .inl rfl
  | y :: l, j => by
    rw [ixOf]
    split
    · exact .inr (Int.le_refl _)
    · rcases ixOf_ge x l (j + 1) with h | h
      · exact .inl h
      · exact .inr (by omega)
theorem ixOf_get {x : Int} : ∀ {l : List Int} {j : Nat}, 0 ≤ ixOf x l j → l[(ixOf x l j).toNat - j]? = some x
  | [], j, h => by simp [ixOf] at h
  | y :: l, j, h => by
    rw [ixOf] at h ⊢
    split
    · rename_i e; simp [e]
    · rename_i e
      rw [if_neg e] at h
      have h2 := ixOf_get h
      rcases ixOf_ge x l (j + 1) with h3 | h3
      · omega
      · rw [show (ixOf x l (j + 1)).toNat - j = ((ixOf x l (j + 1)).toNat - (j + 1)) + 1 by omega, List.getElem?_cons_succ]
        exact h2
theorem ixOf_at {x : Int} {l : List Int} (h : 0 ≤ ixOf x l 0) : l[(ixOf x l 0).toNat]? = some x := by
  have := ixOf_get h
  rwa [Nat.sub_zero] at this
theorem ixOf_un {x : Int} {l : List Int} {j : Nat} (hj : l[j]? = some x) (hu : ∀ i, l[i]? = some x → i = j) : ixOf x l 0 = j := by
  refine ixOf_here (fun y hy e => ?_) hj
  subst e
  obtain ⟨i, hi⟩ := List.mem_iff_getElem?.1 hy
  rw [List.getElem?_take] at hi
  split at hi
  · rename_i hlt
    have := hu i hi
    omega
  · cases hi
theorem ixOf_no {x : Int} {l : List Int} (h : ∀ i : Nat, l[i]? ≠ some x) : ixOf x l 0 = -1 :=
  ixOf_none fun y hy e => by
    obtain ⟨i, hi⟩ := List.mem_iff_getElem?.1 hy
    exact h i (by rw [hi, e])
theorem ixOf_neg {x : Int} {l : List Int} (h : ixOf x l 0 < 0) (i : Nat) : l[i]? ≠ some x := fun hi => by
  have hm : ∃ j : Nat, ixOf x l 0 = j := by
    clear h
    have : ∀ (l : List Int) (i k : Nat), l[i]? = some x → ∃ j : Nat, ixOf x l k = j := by
      intro l
      induction l with
      | nil => intro i k h; simp at h
      | cons y l ih =>
        intro i k h
        rw [ixOf]
        split
        · exact ⟨k, rfl⟩
        · rename_i e
          cases i with
          | zero => simp at h; exact (e h.symm).elim
          | succ i => exact ih i (k + 1) (by simpa using h)
    exact this l i 0 hi
  obtain ⟨j, hj⟩ := hm
  omega
/-- two places are written anew, that had x and none, and have none and x -/
theorem ixOf_two {l : List Int} (h : Uq l) {a b : Nat} {x : Int} (hx : x ≠ 0) (ha : l[a]? = some x) (hb : l[b]? = some 0) :
    Uq ((l.set a 0).set b x) ∧ ixOf x ((l.set a 0).set b x) 0 = b ∧ ixOf x l 0 = a ∧ ∀ t, t ≠ x → t ≠ 0 → ixOf t ((l.set a 0).set b x) 0 = ixOf t l 0 := by
  have hal := (List.getElem?_eq_some_iff.1 ha).1
  have hbl := (List.getElem?_eq_some_iff.1 hb).1
  have hne : a ≠ b := fun e => by subst e; rw [ha] at hb; cases hb; exact hx rfl
  have get : ∀ i, ((l.set a 0).set b x)[i]? = if i = b then some x else if i = a then some 0 else l[i]? := fun i => by
    by_cases e : i = b
    · subst e; rw [if_pos rfl, List.getElem?_set_self (by rw [List.length_set]; exact hbl)]
    · rw [if_neg e, List.getElem?_set_ne (Ne.symm e)]
      by_cases e2 : i = a
      · subst e2; rw [if_pos rfl, List.getElem?_set_self hal]
      · rw [if_neg e2, List.getElem?_set_ne (Ne.symm e2)]
  have only : ∀ i t, t ≠ 0 → t ≠ x → (((l.set a 0).set b x)[i]? = some t ↔ l[i]? = some t) := fun i t h0 hx2 => by
    rw [get]
    by_cases e : i = b
    · subst e; rw [if_pos rfl, hb]; simp [Ne.symm hx2, Ne.symm h0]
    · rw [if_neg e]
      by_cases e2 : i = a
      · subst e2; rw [if_pos rfl, ha]; simp [Ne.symm hx2, Ne.symm h0]
      · rw [if_neg e2]
  have onx : ∀ i, ((l.set a 0).set b x)[i]? = some x → i = b := fun i hi => by
    rw [get] at hi
    by_cases e : i = b
    · exact e
    · rw [if_neg e] at hi
      by_cases e2 : i = a
      · rw [if_pos e2] at hi; cases hi; exact (hx rfl).elim
      · rw [if_neg e2] at hi; exact (e2 (h.u i a x hi ha hx)).elim
  refine ⟨⟨fun i j t hi hj h0 => ?_, fun t ht => ?_⟩, ixOf_un (by rw [get, if_pos rfl]) onx, ixOf_un ha fun i hi => h.u i a x hi ha hx, fun t ht h0 => ?_⟩
  · by_cases e : t = x
    · subst e; rw [onx i hi, onx j hj]
    · exact h.u i j t ((only i t h0 e).1 hi) ((only j t h0 e).1 hj) h0
  · obtain ⟨i, hi⟩ := List.mem_iff_getElem?.1 ht
    rw [get] at hi
    by_cases e : i = b
    · rw [if_pos e] at hi; cases hi; exact h.b _ (List.mem_of_getElem? ha)
    · rw [if_neg e] at hi
      by_cases e2 : i = a
      · rw [if_pos e2] at hi; cases hi; omega
      · rw [if_neg e2] at hi; exact h.b _ (List.mem_of_getElem? hi)
  · by_cases hn : 0 ≤ ixOf t l 0
    · have h1 := ixOf_at hn
      have h2 := ixOf_un ((only _ t h0 ht).2 h1) fun i hi => h.u i _ t ((only i t h0 ht).1 hi) h1 h0
      rw [h2]; omega
    · have h1 : ixOf t l 0 = -1 := by
        rcases ixOf_ge t l 0 with h | h
        · exact h
        · omega
      rw [h1]
      exact ixOf_no fun i hi => ixOf_neg (by omega : ixOf t l 0 < 0) i ((only i t h0 ht).1 hi)
/-- one place is written anew that had none -/
theorem ixOf_one {l : List Int} (h : Uq l) {b : Nat} {x : Int} (hx : 1 ≤ x ∧ x ≤ 30) (hb : l[b]? = some 0) (hn : ixOf x l 0 < 0) :
    Uq (l.set b x) ∧ ixOf x (l.set b x) 0 = b ∧ ∀ t, t ≠ x → t ≠ 0 → ixOf t (l.set b x) 0 = ixOf t l 0 := by
  have hbl := (List.getElem?_eq_some_iff.1 hb).1
  have get : ∀ i, (l.set b x)[i]? = if i = b then some x else l[i]? := fun i => by
    by_cases e : i = b
    · subst e; rw [if_pos rfl, List.getElem?_set_self hbl]
    · rw [if_neg e, List.getElem?_set_ne (Ne.symm e)]
  have only : ∀ i t, t ≠ 0 → t ≠ x → ((l.set b x)[i]? = some t ↔ l[i]? = some t) := fun i t h0 hx2 => by
    rw [get]
    by_cases e : i = b
    · subst e; rw [if_pos rfl, hb]; simp [Ne.symm hx2, Ne.symm h0]
    · rw [if_neg e]
  have onx : ∀ i, (l.set b x)[i]? = some x → i = b := fun i hi => by
    rw [get] at hi
    by_cases e : i = b
    · exact e
    · rw [if_neg e] at hi; exact (ixOf_neg hn i hi).elim
  refine ⟨⟨fun i j t hi hj h0 => ?_, fun t ht => ?_⟩, ixOf_un (by rw [get, if_pos rfl]) onx, fun t ht h0 => ?_⟩
  · by_cases e : t = x
    · subst e; rw [onx i hi, onx j hj]
    · exact h.u i j t ((only i t h0 e).1 hi) ((only j t h0 e).1 hj) h0
  · obtain ⟨i, hi⟩ := List.mem_iff_getElem?.1 ht
    rw [get] at hi
    by_cases e : i = b
    · rw [if_pos e] at hi; cases hi; omega
    · rw [if_neg e] at hi; exact h.b _ (List.mem_of_getElem? hi)
  · by_cases hn : 0 ≤ ixOf t l 0
    · have h1 := ixOf_at hn
      have h2 := ixOf_un ((only _ t h0 ht).2 h1) fun i hi => h.u i _ t ((only i t h0 ht).1 hi) h1 h0
      rw [h2]; omega
    · have h1 : ixOf t l 0 = -1 := by
        rcases ixOf_ge t l 0 with h | h
        · exact h
        · omega
      rw [h1]
      exact ixOf_no fun i hi => ixOf_neg (by omega : ixOf t l 0 < 0) i ((only i t h0 ht).1 hi)
theorem tote_get {p : Pl} {n : Int} {x : Int} (h0 : 0 ≤ n) (h : p.at_[n.toNat]? = some x) : p.tote n = x := by
  have := (List.getElem?_eq_some_iff.1 h).1
  rw [Pl.tote, if_neg (by omega), h]; rfl
/-- what is told of the totes -/
structure Still (p : Pl) (was : List Int) : Prop where
  uq : Uq p.at_
  len : was.length = 31
  eq : ∀ t : Nat, 1 ≤ t → t ≤ 30 → was[t]? = some (ixOf t p.at_ 0)
theorem Still.set {p : Pl} {was : List Int} (h : Still p was) {q : Pl} (hu : Uq q.at_) {x v : Int} (h1 : 1 ≤ x) (h2 : x ≤ 30) (hv : ixOf x q.at_ 0 = v) (ho : ∀ t, t ≠ x → t ≠ 0 → ixOf t q.at_ 0 = ixOf t p.at_ 0) : Still q (was.set x.toNat v) := by
  refine ⟨hu, by rw [List.length_set]; exact h.len, fun t t1 t2 => ?_⟩
  by_cases e : x.toNat = t
  · subst e
    rw [List.getElem?_set_self (by rw [h.len]; omega), ← hv]
    congr 2; omega
  · rw [List.getElem?_set_ne e, h.eq t t1 t2, ho t (by omega) (by omega)]
/-- an accepted Put -/
theorem Still.put {p : Pl} {was : List Int} (h : Still p was) {t n : Int} (he : (p.put t n).2 = 0) :
    1 ≤ t ∧ t ≤ 30 ∧ 0 ≤ n ∧ n < p.at_.length ∧ was[t.toNat]? = some (-1) ∧ (p.put t n).1.loc t = n ∧ Still (p.put t n).1 (was.set t.toNat n) := by
  unfold Pl.put at he ⊢
  split at he
  · cases he
  rename_i k1
  split at he
  · cases he
  rename_i k2
  split at he
  · cases he
  rename_i k3
  rw [if_neg k1, if_neg k2, if_neg k3]
  have hl : p.loc t = ixOf t p.at_ 0 := by rw [Pl.loc, if_neg (by omega)]
  rw [hl] at k2
  have hbl : n.toNat < p.at_.length := by omega
  have hb : p.at_[n.toNat]? = some 0 := by
    have hg := List.getElem?_eq_getElem hbl
    have h0 := h.uq.b _ (List.getElem_mem hbl)
    have := tote_get (p := p) (n := n) (by omega) hg
    rw [hg]; congr 1; omega
  obtain ⟨q1, q2, q3⟩ := ixOf_one h.uq (b := n.toNat) (x := t) (by omega) hb (by omega)
  refine ⟨by omega, by omega, by omega, by omega, ?_, ?_, ?_⟩
  · have := h.eq t.toNat (by omega) (by omega)
    rw [this]
    have e : ((t.toNat : Nat) : Int) = t := by omega
    rw [e]
    rcases ixOf_ge t p.at_ 0 with h | h
    · rw [h]
    · omega
  · rw [Pl.loc, if_neg (by omega)]
    simp only [q2]; omega
  · exact h.set (q := ⟨p.es, p.at_.set n.toNat t, p.ds, p.mv⟩) q1 (by omega) (by omega) (by simp only [q2]; omega) q3
theorem Still.same {p q : Pl} {was : List Int} (h : Still p was) (he : q.at_ = p.at_) : Still q was := ⟨by rw [he]; exact h.uq, h.len, by rw [he]; exact h.eq⟩
/-- a move that is done -/
theorem Still.moved {p : Pl} {was : List Int} (h : Still p was) {e : Ed} (he : 0 ≤ e.a ∧ e.a < p.at_.length ∧ 0 ≤ e.b ∧ e.b < p.at_.length ∧ e.a ≠ e.b) {x : Int} (ha : p.tote e.a = x) (hx : x ≠ 0) (hb : ¬p.tote e.b > 0) {q : Pl} (hq : q.at_ = (p.at_.set e.a.toNat 0).set e.b.toNat x) :
    1 ≤ x ∧ x ≤ 30 ∧ was[x.toNat]? = some e.a ∧ q.loc x = e.b ∧ Still q (was.set x.toNat e.b) := by
  have hal : e.a.toNat < p.at_.length := by omega
  have hbl : e.b.toNat < p.at_.length := by omega
  have ga := List.getElem?_eq_getElem hal
  have gb := List.getElem?_eq_getElem hbl
  have ta := tote_get (p := p) (n := e.a) (by omega) ga
  have tb := tote_get (p := p) (n := e.b) (by omega) gb
  have ba := h.uq.b _ (List.getElem_mem hal)
  have bb := h.uq.b _ (List.getElem_mem hbl)
  rw [← ta, ha] at ga
  have gb0 : p.at_[e.b.toNat]? = some 0 := by rw [gb]; congr 1; omega
  obtain ⟨q1, q2, q3, q4⟩ := ixOf_two h.uq hx ga gb0
  have h1 : 1 ≤ x := by omega
  have h2 : x ≤ 30 := by omega
  refine ⟨h1, h2, ?_, ?_, ?_⟩
  · rw [h.eq x.toNat (by omega) (by omega)]
    have e : ((x.toNat : Nat) : Int) = x := by omega
    rw [e, q3]; congr 1; omega
  · rw [Pl.loc, if_neg (by omega), hq, q2]; omega
  · exact h.set (q := q) (by rw [hq]; exact q1) h1 h2 (by rw [hq, q2]; omega) (by rw [hq]; exact q4)
end Go.Proofs.Ytpblhjaghkkdhaa.Ab
