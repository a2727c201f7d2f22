/- Chapter 20: plain law: a plant is the document's. -/
import Derived.Test.YtpblhjaghkkdhaaY20r
namespace Go.Proofs.Ytpblhjaghkkdhaa.Ab
open Go
set_option linter.unusedVariables false
structure Sim (l : Lay) (p : Pl) (r : Rp) (k : Nat) : Prop where
  ok : p.Ok
  es : p.es = l.es
  al : p.at_.length = l.ns.length
  lay : r.l = l
  uq : Uq p.at_
  s1 : ∀ s ∈ r.sp, 1 ≤ s.tote ∧ s.tote ≤ 30 ∧ 0 ≤ s.node ∧ p.at_[s.node.toNat]? = some s.tote
  s2 : ∀ (n : Nat) (t : Int), p.at_[n]? = some t → t ≠ 0 → ∃ s ∈ r.sp, s.node = (n : Int)
  bk : ∀ (d : Nat) (y : Dv), p.ds[d]? = some y → (y.broken = true ↔ (d : Int) ∈ r.bk)
  l1 : ∀ x ∈ r.ls, 1 ≤ x.dev ∧ (∃ y : Dv, p.ds[x.dev.toNat]? = some y ∧ y.did = true ∧ y.seq = x.seq ∧ y.tote = x.tote) ∧ 0 ≤ x.seq ∧ x.seq < 65536
  l2 : ∀ (d : Nat) (y : Dv), p.ds[d]? = some y → y.did = true → ∃ x ∈ r.ls, x.dev = (d : Int)
  l3 : ∀ (d : Nat) (y : Dv), p.ds[d]? = some y → y.did = false → y.seq = 0 ∧ y.tote = 0
  mv : r.mv = p.mv
  z1 : r.sp.length ≤ k
  z2 : r.bk.length ≤ k
  z3 : r.ls.length ≤ k
theorem Sim.le {l : Lay} {p : Pl} {r : Rp} {k k' : Nat} (h : Sim l p r k) (hk : k ≤ k') : Sim l p r k' :=
  ⟨h.ok, h.es, h.al, h.lay, h.uq, h.s1, h.s2, h.bk, h.l1, h.l2, h.l3, h.mv, Nat.le_trans h.z1 hk, Nat.le_trans h.z2 hk, Nat.le_trans h.z3 hk⟩
section
variable {l : Lay} {p : Pl} {r : Rp} {k : Nat}
theorem Sim.loc (h : Sim l p r k) (t : Int) : r.loc t = p.loc t := by
  unfold Rp.loc Pl.loc
  cases hf : findX Sp.tote t r.sp 0 with
  | none =>
    have hno := findX_none.1 hf
    by_cases ht : t < 1
    · rw [if_pos ht]
    · rw [if_neg ht]
      by_cases hn : 0 ≤ ixOf t p.at_ 0
      · have h1 := ixOf_at hn
        obtain ⟨s, hs, e⟩ := h.s2 _ _ h1 (by omega)
        have h2 := (h.s1 s hs).2.2.2
        rw [e, Int.toNat_natCast, h1] at h2
        exact (hno s hs (Option.some.inj h2).symm).elim
      · rcases ixOf_ge t p.at_ 0 with h | h
        · exact h.symm
        · omega
  | some q =>
    obtain ⟨i, s⟩ := q
    obtain ⟨hs, e, _⟩ := findX_mem hf
    obtain ⟨a1, a2, a3, a4⟩ := h.s1 s hs
    subst e
    rw [if_neg (by omega), ixOf_un a4 fun i hi => h.uq.u i _ _ hi a4 (by omega)]
    simp only; omega
theorem Sim.tote (h : Sim l p r k) (n : Int) : r.tote n = p.tote n := by
  unfold Rp.tote
  cases hf : findX Sp.node n r.sp 0 with
  | none =>
    have hno := findX_none.1 hf
    unfold Pl.tote
    by_cases hn : n < 0 ∨ (p.at_.length : Int) ≤ n
    · rw [if_pos hn]
    · rw [if_neg hn]
      have hl : n.toNat < p.at_.length := by omega
      have hg := List.getElem?_eq_getElem hl
      rw [hg]
      simp only [Option.getD_some]
      by_cases h0 : p.at_[n.toNat] = 0
      · exact h0.symm
      · obtain ⟨s, hs, e⟩ := h.s2 _ _ hg h0
        exact (hno s hs (by omega)).elim
  | some q =>
    obtain ⟨i, s⟩ := q
    obtain ⟨hs, e, _⟩ := findX_mem hf
    obtain ⟨a1, a2, a3, a4⟩ := h.s1 s hs
    subst e
    exact (tote_get a3 a4).symm
theorem Sim.dl (h : Sim l p r k) : p.ds.length = r.l.es.length + 1 := by rw [h.ok.dl, h.es, h.lay]
theorem Sim.works (h : Sim l p r k) (d : Int) : r.works d = p.works d := by
  have hdl := h.dl
  unfold Rp.works Pl.works
  by_cases hd : 1 ≤ d ∧ d ≤ r.l.es.length
  · rw [show p.noDev d = false by simp only [Pl.noDev, decide_eq_false_iff_not]; omega]
    have h2 : d.toNat < p.ds.length := by omega
    have hg := List.getElem?_eq_getElem h2
    generalize p.ds[d.toNat] = y at hg
    have hb := h.bk _ y hg
    rw [show ((d.toNat : Nat) : Int) = d by omega] at hb
    simp only [brk, hg, Bool.not_false, Bool.true_and]
    cases hf : findX (fun x : Int => x) d r.bk 0 with
    | none =>
      have hno := findX_none.1 hf
      have : y.broken = false := by
        rw [← Bool.not_eq_true]; intro hy; exact hno d (hb.1 hy) rfl
      rw [this]; simp only [decide_eq_true hd, Bool.not_false]
    | some q =>
      obtain ⟨i, x⟩ := q
      obtain ⟨hm, e, _⟩ := findX_mem hf
      have e2 : x = d := e
      rw [e2] at hm
      rw [hb.2 hm]; rfl
  · rw [show p.noDev d = true by simp only [Pl.noDev, decide_eq_true_eq]; omega]
    simp only [Bool.not_true, Bool.false_and]
    split
    · rfl
    · exact decide_eq_false hd
theorem Sim.last (h : Sim l p r k) {d : Int} {y : Dv} (h0 : 0 ≤ d) (hy : p.ds[d.toNat]? = some y) : (Lt.ob (findX Lt.dev d r.ls 0)).1.seq = y.seq ∧ (Lt.ob (findX Lt.dev d r.ls 0)).1.tote = y.tote ∧ (Lt.ob (findX Lt.dev d r.ls 0)).2 = y.did := by
  cases hf : findX Lt.dev d r.ls 0 with
  | none =>
    have hno := findX_none.1 hf
    have hd : y.did = false := by
      rw [← Bool.not_eq_true]; intro hd
      obtain ⟨x, hx, e⟩ := h.l2 _ y hy hd
      exact hno x hx (by omega)
    obtain ⟨a, b⟩ := h.l3 _ y hy hd
    rw [a, b, hd]; exact ⟨rfl, rfl, rfl⟩
  | some q =>
    obtain ⟨i, x⟩ := q
    obtain ⟨hx, e, _⟩ := findX_mem hf
    obtain ⟨a1, ⟨y', a2, a3, a4, a5⟩, _⟩ := h.l1 x hx
    rw [e, hy] at a2; cases a2
    exact ⟨a4.symm, a5.symm, a3.symm⟩
theorem Sim.put (h : Sim l p r k) (t n : Int) : (p.put t n).2 = (r.put t n).2 ∧ Sim l (p.put t n).1 (r.put t n).1 (k + 1) := by
  have ok := Pl.put_ok h.ok t n
  have same : Sim l p r (k + 1) := h.le (by omega)
  have hal := h.al
  unfold Pl.put at ok ⊢
  unfold Rp.put
  rw [h.loc, h.tote, h.lay, ← h.al]
  by_cases c1 : t < 1 ∨ 30 < t ∨ n < 0 ∨ (p.at_.length : Int) ≤ n
  · rw [if_pos c1, if_pos c1]; exact ⟨by trivial, same⟩
  rw [if_neg c1] at ok ⊢
  rw [if_neg c1]
  by_cases c2 : 0 ≤ p.loc t
  · rw [if_pos c2, if_pos c2]; exact ⟨by trivial, same⟩
  rw [if_neg c2] at ok ⊢
  rw [if_neg c2]
  by_cases c3 : 0 < p.tote n
  · rw [if_pos c3, if_pos (show p.tote n > 0 from c3)]; exact ⟨by trivial, same⟩
  rw [if_neg c3] at ok ⊢
  rw [if_neg (show ¬(p.tote n > 0) from c3)]
  rw [Pl.loc, if_neg (show ¬(t < 1) by omega)] at c2
  have hbl : n.toNat < p.at_.length := by omega
  have hb : p.at_[n.toNat]? = some 0 := by
    have hg := List.getElem?_eq_getElem hbl
    have h0 := h.uq.b _ (List.getElem_mem hbl)
    have := tote_get (p := p) (n := n) (by omega) hg
    rw [hg]; congr 1; omega
  obtain ⟨q1, q2, q3⟩ := ixOf_one h.uq (b := n.toNat) (x := t) (by omega) hb (by omega)
  refine ⟨by trivial, ok, h.es, by simp only [List.length_set]; exact h.al, rfl, q1, fun s hs => ?_, fun n' t' hg h0 => ?_, h.bk, h.l1, h.l2, h.l3, h.mv, by have := h.z1; simp; omega, Nat.le_succ_of_le h.z2, Nat.le_succ_of_le h.z3⟩
  · rcases List.mem_append.1 hs with hs | hs
    · obtain ⟨a1, a2, a3, a4⟩ := h.s1 s hs
      have hne : n.toNat ≠ s.node.toNat := fun e => by
        rw [e, a4] at hb; have := Option.some.inj hb; omega
      refine ⟨a1, a2, a3, ?_⟩
      simp only; rw [List.getElem?_set_ne hne]; exact a4
    · rw [List.mem_singleton.1 hs]
      exact ⟨by simp only; omega, by simp only; omega, by simp only; omega, List.getElem?_set_self hbl⟩
  · simp only at hg
    by_cases e : n.toNat = n'
    · exact ⟨⟨t, n⟩, by simp, by simp only; omega⟩
    · rw [List.getElem?_set_ne e] at hg
      obtain ⟨s, hs, e⟩ := h.s2 n' t' hg h0
      exact ⟨s, by simp [hs], e⟩
theorem Sim.set (h : Sim l p r k) (d : Int) (b : Bool) : (p.set d b (if b = true then 4 else 5)).2 = (r.set d (!b)).2 ∧ Sim l (p.set d b (if b = true then 4 else 5)).1 (r.set d (!b)).1 (k + 1) := by
  have ok := Pl.set_ok h.ok d b (if b = true then 4 else 5)
  have same : Sim l p r (k + 1) := h.le (by omega)
  have hdl := h.dl
  unfold Pl.set at ok ⊢
  unfold Rp.set
  by_cases c1 : p.noDev d = true
  · have c2 : d < 1 ∨ (r.l.es.length : Int) < d := by
      simp only [Pl.noDev, decide_eq_true_eq] at c1; omega
    rw [if_pos c1, if_pos c2]; exact ⟨by trivial, same⟩
  have c2 : ¬(d < 1 ∨ (r.l.es.length : Int) < d) := by
    simp only [Pl.noDev, decide_eq_true_eq] at c1; omega
  rw [if_neg c1] at ok ⊢
  rw [if_neg c2]
  have h2 : d.toNat < p.ds.length := by omega
  have hy := List.getElem?_eq_getElem h2
  generalize p.ds[d.toNat] = y at hy
  simp only [hy] at ok ⊢
  have hset : ∀ z : Dv, (p.ds.set d.toNat z)[d.toNat]? = some z := fun z => List.getElem?_set_self h2
  have get : ∀ {j : Nat} {z : Dv}, (p.ds.set d.toNat ⟨b, y.did, y.seq, y.tote⟩)[j]? = some z → (j = d.toNat ∧ z = ⟨b, y.did, y.seq, y.tote⟩) ∨ (j ≠ d.toNat ∧ p.ds[j]? = some z) := fun {j z} hz => by
    by_cases e : d.toNat = j
    · subst e; rw [hset] at hz; cases hz; exact .inl ⟨rfl, rfl⟩
    · rw [List.getElem?_set_ne e] at hz; exact .inr ⟨fun e' => e e'.symm, hz⟩
  refine ⟨by cases b <;> rfl, ok, h.es, h.al, h.lay, h.uq, h.s1, h.s2, fun j z hz => ?_, fun x hx => ?_, fun j z hz hd => ?_, fun j z hz hd => ?_, h.mv, Nat.le_succ_of_le h.z1, ?_, Nat.le_succ_of_le h.z3⟩
  · simp only
    rcases get hz with ⟨e1, e2⟩ | ⟨e1, e2⟩
    · subst e1 e2
      rw [show ((d.toNat : Nat) : Int) = d by omega]
      cases b with
      | true => simp
      | false => simp [notI]
    · have hne : (j : Int) ≠ d := by omega
      have := h.bk j z e2
      rw [this]
      cases b with
      | true => simp [notI, hne]
      | false => simp [notI, hne]
  · obtain ⟨a1, ⟨y', a2, a3, a4, a5⟩, a6⟩ := h.l1 x hx
    refine ⟨a1, ?_, a6⟩
    by_cases e : d.toNat = x.dev.toNat
    · rw [← e, hy] at a2; cases a2
      exact ⟨⟨b, y.did, y.seq, y.tote⟩, by simp only; rw [← e]; exact hset _, a3, a4, a5⟩
    · exact ⟨y', by simp only; rw [List.getElem?_set_ne e]; exact a2, a3, a4, a5⟩
  · rcases get hz with ⟨e1, e2⟩ | ⟨e1, e2⟩
    · subst e1 e2; exact h.l2 _ y hy hd
    · exact h.l2 j z e2 hd
  · rcases get hz with ⟨e1, e2⟩ | ⟨e1, e2⟩
    · subst e1 e2; exact h.l3 _ y hy hd
    · exact h.l3 j z e2 hd
  · have := List.length_filter_le (notI d) r.bk
    have := h.z2
    simp only [List.length_append]
    cases b <;> simp <;> omega
theorem Sim.hear (h : Sim l p r k) (t : Te) (ht : t.Ok) : (p.hear t).2 = (r.hear t).2 ∧ Sim l (p.hear t).1 (r.hear t).1 (k + 1) := by
  have ok := Pl.hear_ok h.ok t
  have same : Sim l p r (k + 1) := h.le (by omega)
  have hdl := h.dl
  unfold Pl.hear at ok ⊢
  unfold Rp.hear
  rw [h.works]
  by_cases hw : p.works t.dev = false
  · rw [if_pos hw, if_pos hw]; exact ⟨by trivial, same⟩
  rw [if_neg hw] at ok ⊢
  rw [if_neg hw]
  simp only [Bool.not_eq_false] at hw
  obtain ⟨w1, w2, y, hy, hbr⟩ := works_in hw
  have h3 : t.dev.toNat < p.ds.length := by omega
  obtain ⟨q1, q2, q3⟩ := h.last (by omega) hy
  generalize Lt.ob (findX Lt.dev t.dev r.ls 0) = q at q1 q2 q3
  obtain ⟨x, did⟩ := q
  simp only at q1 q2 q3
  by_cases k6 : t.k = 6
  · rw [if_neg (show ¬(t.k = 1) by omega), if_pos k6, if_pos k6]
    simp only [hy, q1, q2]
    exact ⟨by trivial, same⟩
  by_cases k1 : t.k = 1
  rotate_left
  · rw [if_neg k1, if_neg k6, if_neg k6, if_neg k1]; exact ⟨by trivial, same⟩
  rw [if_pos k1] at ok ⊢
  rw [if_neg k6, if_pos k1]
  have r4 : (t.dev - 1).toNat < r.l.es.length := by omega
  have he := List.getElem?_eq_getElem r4
  generalize r.l.es[(t.dev - 1).toNat] = e at he
  have he2 : p.es[(t.dev - 1).toNat]? = some e := by rw [h.es, ← h.lay]; exact he
  simp only [he, he2] at ok ⊢
  unfold Pl.move at ok ⊢
  unfold Rp.move
  simp only [hy] at ok ⊢
  rw [q1, q2, q3, h.tote, h.tote]
  by_cases c1 : y.did = true ∧ y.seq = t.seq ∧ y.tote = t.a
  · rw [if_pos c1, if_pos ⟨⟨c1.1, c1.2.1⟩, c1.2.2⟩]; exact ⟨by trivial, same⟩
  rw [if_neg c1] at ok ⊢
  rw [if_neg (show ¬((y.did = true ∧ y.seq = t.seq) ∧ y.tote = t.a) from fun h => c1 ⟨h.1.1, h.1.2, h.2⟩)]
  by_cases c2 : y.did = true ∧ ¬(dist y.seq t.seq > 0)
  · rw [if_pos c2, if_pos ⟨c2.1, by omega⟩]; exact ⟨by trivial, same⟩
  rw [if_neg c2] at ok ⊢
  rw [if_neg (show ¬(y.did = true ∧ dist y.seq t.seq ≤ 0) from fun h => c2 ⟨h.1, by omega⟩)]
  by_cases c3 : p.tote e.a ≠ t.a ∨ t.a = 0
  · rw [if_pos c3, if_pos c3.symm]; exact ⟨by trivial, same⟩
  rw [if_neg c3] at ok ⊢
  rw [if_neg (show ¬(t.a = 0 ∨ p.tote e.a ≠ t.a) from fun h => c3 h.symm)]
  by_cases c4 : p.tote e.b > 0
  · rw [if_pos c4, if_pos c4]; exact ⟨by trivial, same⟩
  rw [if_neg c4] at ok ⊢
  rw [if_neg c4]
  obtain ⟨a0, a1, b0, b1, hab⟩ := h.ok.ed e (List.mem_of_getElem? he2)
  have hal : e.a.toNat < p.at_.length := by omega
  have hbl : e.b.toNat < p.at_.length := by omega
  have ga := List.getElem?_eq_getElem hal
  have gb := List.getElem?_eq_getElem hbl
  have ta := tote_get (p := p) (n := e.a) a0 ga
  have tb := tote_get (p := p) (n := e.b) b0 gb
  have ba := h.uq.b _ (List.getElem_mem hal)
  have bb := h.uq.b _ (List.getElem_mem hbl)
  have hta : p.tote e.a = t.a := by omega
  have h0 : t.a ≠ 0 := by omega
  rw [← ta, hta] at ga
  have gb0 : p.at_[e.b.toNat]? = some 0 := by rw [gb]; congr 1; omega
  obtain ⟨u1, u2, u3, u4⟩ := ixOf_two h.uq h0 ga gb0
  have get : ∀ i, ((p.at_.set e.a.toNat 0).set e.b.toNat t.a)[i]? = if i = e.b.toNat then some t.a else if i = e.a.toNat then some 0 else p.at_[i]? := fun i => by
    by_cases e1 : i = e.b.toNat
    · subst e1; rw [if_pos rfl, List.getElem?_set_self (by rw [List.length_set]; exact hbl)]
    · rw [if_neg e1, List.getElem?_set_ne (Ne.symm e1)]
      by_cases e2 : i = e.a.toNat
      · subst e2; rw [if_pos rfl, List.getElem?_set_self hal]
      · rw [if_neg e2, List.getElem?_set_ne (Ne.symm e2)]
  have hset : ∀ z : Dv, (p.ds.set t.dev.toNat z)[t.dev.toNat]? = some z := fun z => List.getElem?_set_self h3
  have getd : ∀ {j : Nat} {z w : Dv}, (p.ds.set t.dev.toNat w)[j]? = some z → (j = t.dev.toNat ∧ z = w) ∨ (j ≠ t.dev.toNat ∧ p.ds[j]? = some z) := fun {j z w} hz => by
    by_cases e : t.dev.toNat = j
    · subst e; rw [hset] at hz; cases hz; exact .inl ⟨rfl, rfl⟩
    · rw [List.getElem?_set_ne e] at hz; exact .inr ⟨fun e' => e e'.symm, hz⟩
  refine ⟨by trivial, ok, h.es, by simp only [List.length_set]; exact h.al, h.lay, u1, fun s hs => ?_, fun n v hg hv => ?_, fun j z hz => ?_, fun z hz => ?_, fun j z hz hd => ?_, fun j z hz hd => ?_, by simp only [h.mv], by simp only [List.length_map]; exact Nat.le_succ_of_le h.z1, Nat.le_succ_of_le h.z2, ?_⟩
  · obtain ⟨s', hs', rfl⟩ := List.mem_map.1 hs
    obtain ⟨b1', b2', b3', b4'⟩ := h.s1 s' hs'
    unfold mvS
    by_cases hst : s'.tote = t.a
    · rw [if_pos hst]
      refine ⟨b1', b2', b0, ?_⟩
      simp only
      rw [get, if_pos rfl, hst]
    · rw [if_neg hst]
      refine ⟨b1', b2', b3', ?_⟩
      simp only
      rw [get, if_neg (fun e' => by rw [e', gb0] at b4'; have := Option.some.inj b4'; omega), if_neg (fun e' => by rw [e', ga] at b4'; exact hst (Option.some.inj b4').symm)]
      exact b4'
  · simp only at hg
    rw [get] at hg
    by_cases e1 : n = e.b.toNat
    · obtain ⟨s, hs, e2⟩ := h.s2 _ _ ga h0
      have h4 := (h.s1 s hs).2.2.2
      rw [e2, Int.toNat_natCast, ga] at h4
      have hst : s.tote = t.a := (Option.some.inj h4).symm
      refine ⟨mvS t.a e.b s, List.mem_map_of_mem hs, ?_⟩
      rw [mvS, if_pos hst]; simp only; omega
    · rw [if_neg e1] at hg
      by_cases e2 : n = e.a.toNat
      · rw [if_pos e2] at hg; cases hg; exact (hv rfl).elim
      · rw [if_neg e2] at hg
        obtain ⟨s, hs, e3⟩ := h.s2 _ _ hg hv
        have h4 := (h.s1 s hs).2.2.2
        rw [e3, Int.toNat_natCast, hg] at h4
        have hst : s.tote ≠ t.a := fun e4 => by
          rw [e4] at h4
          have h5 := Option.some.inj h4
          rw [h5] at hg
          exact e2 (h.uq.u _ _ _ hg ga h0)
        refine ⟨mvS t.a e.b s, List.mem_map_of_mem hs, ?_⟩
        rw [mvS, if_neg hst]; exact e3
  · simp only at hz
    rcases getd hz with ⟨e1, e2⟩ | ⟨e1, e2⟩
    · subst e1 e2; exact h.bk _ y hy
    · exact h.bk j z e2
  · rcases List.mem_cons.1 hz with rfl | hz
    · exact ⟨w1, ⟨_, hset _, rfl, rfl, rfl⟩, ht.seq⟩
    · obtain ⟨hz, hzd⟩ := List.mem_filter.1 hz
      obtain ⟨a1', ⟨y', a2', a3'⟩, a4'⟩ := h.l1 z hz
      have hne : t.dev.toNat ≠ z.dev.toNat := fun e' => by
        simp only [notDev, Bool.not_eq_true', decide_eq_false_iff_not] at hzd
        omega
      exact ⟨a1', ⟨y', by simp only; rw [List.getElem?_set_ne hne]; exact a2', a3'⟩, a4'⟩
  · simp only at hz
    rcases getd hz with ⟨e1, e2⟩ | ⟨e1, e2⟩
    · exact ⟨⟨t.dev, t.seq, t.a⟩, by simp, by simp only; omega⟩
    · obtain ⟨z', hz', e3⟩ := h.l2 j z e2 hd
      refine ⟨z', List.mem_cons_of_mem _ (List.mem_filter.2 ⟨hz', ?_⟩), e3⟩
      simp only [notDev, Bool.not_eq_true', decide_eq_false_iff_not]
      omega
  · simp only at hz
    rcases getd hz with ⟨e1, e2⟩ | ⟨e1, e2⟩
    · subst e2; cases hd
    · exact h.l3 j z e2 hd
  · have := List.length_filter_le (notDev t.dev) r.ls
    have := h.z3
    simp only [List.length_cons]; omega
theorem Sim.new {l : Lay} (hg : l.good = true) : Sim l (Pl.new l) (Rp.new l) 0 := by
  have ha : ∀ (j : Nat) (v : Int), (Pl.new l).at_[j]? = some v → v = 0 := fun j d h => by
    have := List.mem_of_getElem? h
    simp only [Pl.new] at this
    exact (List.mem_replicate.1 this).2
  have hd : ∀ (j : Nat) (v : Dv), (Pl.new l).ds[j]? = some v → v = ⟨false, false, 0, 0⟩ := fun j d h => by
    have := List.mem_of_getElem? h
    simp only [Pl.new] at this
    exact (List.mem_replicate.1 this).2
  refine ⟨Pl.new_ok hg, rfl, by simp [Pl.new], rfl, ⟨fun i j x hi _ h0 => (h0 (ha i x hi)).elim, fun x hx => ?_⟩, fun s hs => by simp [Rp.new] at hs, fun n t hn h0 => (h0 (ha n t hn)).elim, fun d y hy => ?_, fun x hx => by simp [Rp.new] at hx, fun d y hy h => (by rw [hd d y hy] at h; cases h), fun d y hy h => (by rw [hd d y hy]; exact ⟨rfl, rfl⟩), rfl, Nat.le_refl _, Nat.le_refl _, Nat.le_refl _⟩
  · obtain ⟨i, hi⟩ := List.mem_iff_getElem?.1 hx
    rw [ha i x hi]; omega
  · rw [hd d y hy]; simp [Rp.new]
theorem Sim.sz (h : Sim l p r k) (hk : k ≤ 100000) (hl : l.ns.length ≤ 100000 ∧ l.es.length ≤ 100000) : r.Sz := by
  have h1 := h.z1
  have h2 := h.z2
  have h3 := h.z3
  exact ⟨by rw [h.lay]; exact hl.1, by rw [h.lay]; exact hl.2, by omega, by omega, by omega⟩
end
end Go.Proofs.Ytpblhjaghkkdhaa.Ab
