/- Chapter 17: MirrorOne. -/
import Derived.Test.YtjijhkmimjolhaaY17i
namespace Go.Proofs.Ytjijhkmimjolhaa.Ab
open Go
set_option linter.unusedVariables false
set_option linter.unusedSimpArgs false
variable {T : AT}
/-- the ends behind the totes up to t -/
def Ends1 (m : Mi) (t : Nat) (E : List Int) : Prop := E.length = m.at_.length ∧ ∀ (k : Nat) (v y : Int), E[k]? = some v → m.at_[k]? = some y → v = if 1 ≤ y ∧ y < t then 1 else 0
theorem Ends1.init {m : Mi} {n : Nat} (h : m.at_.length = n) : Ends1 m 1 (List.replicate n 0) := ⟨by rw [List.length_replicate, h], fun k v y h1 _ => by
  have := List.mem_replicate.1 (List.mem_of_getElem? h1)
  rw [if_neg (by omega)]; exact this.2⟩
theorem Ends1.no {l : Lay} {m : Mi} (o : One l m) {t : Nat} {E : List Int} (h : Ends1 m t E) (ht : 1 ≤ t) (hw : m.w[t]? = some 0) : Ends1 m (t + 1) E := ⟨h.1, fun k v y h1 h2 => by
  rw [h.2 k v y h1 h2]
  have hne : y ≠ t := fun e => by
    rcases o.aw k y h2 with h3 | ⟨h3, _, h4⟩
    · omega
    · rw [e] at h4; simp only [Int.toNat_natCast] at h4; rw [hw] at h4; simp at h4; omega
  by_cases hc : 1 ≤ y ∧ y < t
  · rw [if_pos hc, if_pos (by omega)]
  · rw [if_neg hc, if_neg (by omega)]⟩
theorem Ends1.yes {l : Lay} {m : Mi} (o : One l m) {t k : Nat} {E : List Int} (h : Ends1 m t E) (ht : 1 ≤ t) (hw : m.w[t]? = some ((k : Int) + 1)) : E[k]? = some 0 ∧ k < m.at_.length ∧ m.at_[k]? = some (t : Int) ∧ Ends1 m (t + 1) (E.set k 1) := by
  have ha := o.wa t k ht hw
  have hk := (List.getElem?_eq_some_iff.1 ha).1
  have hkE : k < E.length := by rw [h.1]; exact hk
  refine ⟨?_, hk, ha, by rw [List.length_set]; exact h.1, fun j v y h1 h2 => ?_⟩
  · have := h.2 k _ _ (List.getElem?_eq_getElem hkE) ha
    rw [if_neg (by omega)] at this
    rw [List.getElem?_eq_getElem hkE, this]
  · rcases get_set h1 with ⟨e1, e2, _⟩ | ⟨e1, e2⟩
    · subst e1 e2
      rw [ha] at h2; cases h2
      rw [if_pos (by omega)]
    · have hne : y ≠ t := fun e => by
        rcases o.aw j y h2 with h3 | ⟨h3, _, h4⟩
        · omega
        · rw [e] at h4; simp only [Int.toNat_natCast] at h4; rw [hw] at h4; simp at h4; omega
      rw [h.2 j v y e2 h2]
      by_cases hc : 1 ≤ y ∧ y < t
      · rw [if_pos hc, if_pos (by omega)]
      · rw [if_neg hc, if_neg (by omega)]
def Full (m : Mi) (d k : Nat) : Prop := (∃ y, m.at_[k]? = some y ∧ 0 < y) ∨ ∃ (j : Nat) (x : Md) (e : Ed), 1 ≤ j ∧ j < d ∧ m.ds[j]? = some x ∧ x.tote ≠ 0 ∧ m.es[j - 1]? = some e ∧ e.b = (k : Int)
structure Ends2 (m : Mi) (d : Nat) (E mv : List Int) : Prop where
  len : E.length = m.at_.length
  val : ∀ (k : Nat) (v : Int), E[k]? = some v → (v = 1 ∧ Full m d k) ∨ (v = 0 ∧ ¬Full m d k)
  mlen : mv.length = 31
  mov : ∀ (t : Nat) (v : Int), mv[t]? = some v → v ≠ 0 → ∃ (j : Nat) (x : Md), j < d ∧ m.ds[j]? = some x ∧ x.tote ≠ 0 ∧ x.tote = (t : Int)
theorem Ends2.init {l : Lay} {m : Mi} (o : One l m) {E : List Int} (h : Ends1 m 31 E) : Ends2 m 1 E (List.replicate 31 0) := by
  refine ⟨h.1, fun k v hv => ?_, by simp, fun t v hv h0 => (h0 (List.mem_replicate.1 (List.mem_of_getElem? hv)).2).elim⟩
  have hk : k < m.at_.length := by rw [← h.1]; exact (List.getElem?_eq_some_iff.1 hv).1
  have ha := List.getElem?_eq_getElem hk
  have h1 := h.2 k v _ hv ha
  rcases o.aw k _ ha with h2 | ⟨h2, h3, _⟩
  · rw [if_neg (by omega)] at h1
    refine .inr ⟨h1, fun hf => ?_⟩
    rcases hf with ⟨y, e1, e2⟩ | ⟨j, x, e, e1, e2, _⟩
    · rw [ha] at e1; cases e1; omega
    · omega
  · rw [if_pos (by omega)] at h1
    exact .inl ⟨h1, .inl ⟨_, ha, by omega⟩⟩
theorem full_mono {m : Mi} {d k : Nat} (h : Full m d k) : Full m (d + 1) k := by
  rcases h with h | ⟨j, x, e, h1, h2, h3⟩
  · exact .inl h
  · exact .inr ⟨j, x, e, h1, by omega, h3⟩
theorem Ends2.skip {m : Mi} {d : Nat} {E mv : List Int} (h : Ends2 m d E mv) {x : Md} (hx : m.ds[d]? = some x) (h0 : x.tote = 0) : Ends2 m (d + 1) E mv := by
  refine ⟨h.len, fun k v hv => ?_, h.mlen, fun t v hv hn => ?_⟩
  · rcases h.val k v hv with ⟨h1, h2⟩ | ⟨h1, h2⟩
    · exact .inl ⟨h1, full_mono h2⟩
    · refine .inr ⟨h1, fun hf => h2 ?_⟩
      rcases hf with hf | ⟨j, y, e, a1, a2, a3, a4, a5⟩
      · exact .inl hf
      · have : j ≠ d := fun e => by subst e; rw [hx] at a3; cases a3; exact a4 h0
        exact .inr ⟨j, y, e, a1, by omega, a3, a4, a5⟩
  · obtain ⟨j, y, a1, a2⟩ := h.mov t v hv hn
    exact ⟨j, y, by omega, a2⟩
theorem Ends2.step {l : Lay} {m : Mi} (o : One l m) {d : Nat} {E mv : List Int} (h : Ends2 m d E mv) (d1 : 1 ≤ d) {x : Md} {e : Ed} (hx : m.ds[d]? = some x) (h0 : x.tote ≠ 0) (he : m.es[d - 1]? = some e) :
    1 ≤ x.tote ∧ x.tote ≤ 30 ∧ m.loc x.tote = e.a ∧ 0 ≤ e.b ∧ e.b < m.at_.length ∧ E[e.b.toNat]? = some 0 ∧ mv[x.tote.toNat]? = some 0 ∧ Ends2 m (d + 1) (E.set e.b.toNat 1) (mv.set x.tote.toNat 1) := by
  obtain ⟨t1, t2, hw, hb⟩ := o.dt d x e hx h0 he
  have hed := o.ok.ed e (List.mem_of_getElem? he)
  have hbl : e.b.toNat < E.length := by rw [h.len]; omega
  have hnf : ¬Full m d e.b.toNat := fun hf => by
    rcases hf with ⟨y, a1, a2⟩ | ⟨j, y, f, a1, a2, a3, a4, a5, a6⟩
    · rw [hb] at a1; cases a1; omega
    · have := o.ub j d y x f e a3 hx a4 h0 a5 he (by omega)
      omega
  have hE : E[e.b.toNat]? = some 0 := by
    rcases h.val _ _ (List.getElem?_eq_getElem hbl) with ⟨a, b⟩ | ⟨a, b⟩
    · exact (hnf b).elim
    · rw [List.getElem?_eq_getElem hbl, a]
  have hml : x.tote.toNat < mv.length := by rw [h.mlen]; omega
  have hM : mv[x.tote.toNat]? = some 0 := by
    rw [List.getElem?_eq_getElem hml]
    congr 1
    by_cases hz : mv[x.tote.toNat] = 0
    · exact hz
    · obtain ⟨j, y, a1, a2, a3, a4⟩ := h.mov _ _ (List.getElem?_eq_getElem hml) hz
      have := o.ut j d y x a2 hx a3 (by omega)
      omega
  refine ⟨t1, t2, ?_, hed.2.2.1, hed.2.2.2.1, hE, hM, ?_⟩
  · rw [Mi.loc, if_neg (by simp [noTote]; omega), hw]; simp only [Option.getD_some]; omega
  refine ⟨by rw [List.length_set]; exact h.len, fun k v hv => ?_, by rw [List.length_set]; exact h.mlen, fun t v hv hn => ?_⟩
  · rcases get_set hv with ⟨e1, e2, _⟩ | ⟨e1, e2⟩
    · subst e1
      exact .inl ⟨e2, .inr ⟨d, x, e, d1, by omega, hx, h0, he, by omega⟩⟩
    · rcases h.val k v e2 with ⟨a, b⟩ | ⟨a, b⟩
      · exact .inl ⟨a, full_mono b⟩
      · refine .inr ⟨a, fun hf => b ?_⟩
        rcases hf with hf | ⟨j, y, f, a1, a2, a3, a4, a5, a6⟩
        · exact .inl hf
        · have : j ≠ d := fun e' => by subst e'; rw [he] at a5; cases a5; omega
          exact .inr ⟨j, y, f, a1, by omega, a3, a4, a5, a6⟩
  · rcases get_set hv with ⟨e1, e2, _⟩ | ⟨e1, e2⟩
    · exact ⟨d, x, by omega, hx, h0, by omega⟩
    · obtain ⟨j, y, a1, a2⟩ := h.mov t v e2 hn
      exact ⟨j, y, by omega, a2⟩
theorem Ends2.fin {l : Lay} {m : Mi} (o : One l m) {E mv : List Int} (h : Ends2 m (m.es.length + 1) E mv) {k : Nat} {v : Int} (hv : E[k]? = some v) : (v = 0 ∨ v = 1) ∧ m.taken k = decide (v = 1) := by
  have hk : k < m.at_.length := by rw [← h.len]; exact (List.getElem?_eq_some_iff.1 hv).1
  have hn := noNode_out (m := m) (n := (k : Int)) (by omega)
  have ht : m.taken k = true ↔ Full m (m.es.length + 1) k := by
    rw [Mi.taken, hn]
    simp only [Bool.not_false, Bool.true_and, Bool.or_eq_true, decide_eq_true_eq, Int.toNat_natCast]
    constructor
    · rintro (hb | ha)
      · obtain ⟨j, hj, hb⟩ := List.any_eq_true.1 hb
        have hj := List.mem_range.1 hj
        simp only [List.getElem?_eq_getElem hj] at hb
        have hd := List.getElem?_eq_getElem hj
        generalize m.ds[j] = x at hb hd
        simp only [busyAt, Bool.and_eq_true, decide_eq_true_eq] at hb
        obtain ⟨b1, b2⟩ := hb
        split at b2
        · rename_i e he
          have hj0 : j ≠ 0 := fun e' => by
            subst e'
            have := o.ok.d0 x hd
            omega
          exact .inr ⟨j, x, e, by omega, by have := o.ok.dl; omega, hd, by omega, he, by simpa using b2⟩
        · cases b2
      · rw [List.getElem?_eq_getElem hk] at ha
        exact .inl ⟨_, List.getElem?_eq_getElem hk, ha⟩
    · rintro (⟨y, a1, a2⟩ | ⟨j, x, e, a1, a2, a3, a4, a5, a6⟩)
      · right; rw [a1]; exact a2
      · left
        have := o.dt j x e a3 a4 a5
        refine busy_true a3 ?_
        simp only [busyAt, a5, decide_eq_true (show x.tote > 0 by omega), a6, decide_true, Bool.and_self]
  rcases h.val k v hv with ⟨a, b⟩ | ⟨a, b⟩
  · exact ⟨.inr a, by rw [ht.2 b, a]; rfl⟩
  · refine ⟨.inl a, ?_⟩
    rw [a]
    cases hc : m.taken k with
    | true => exact (b (ht.1 hc)).elim
    | false => rfl
end Go.Proofs.Ytjijhkmimjolhaa.Ab
