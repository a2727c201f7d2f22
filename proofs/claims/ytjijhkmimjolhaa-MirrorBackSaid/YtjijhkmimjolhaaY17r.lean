/- Chapter 17: plain law: a mirror is the document's. -/
import Derived.Test.YtjijhkmimjolhaaY17q
namespace Go.Proofs.Ytjijhkmimjolhaa.Ab
open Go
set_option linter.unusedVariables false
structure Sim (l : Lay) (m : Mi) (r : Rm) (k : Nat) : Prop where
  one : One l m
  lay : r.l = l
  n1 : 1 ≤ l.ns.length
  s1 : ∀ s ∈ r.sp, 1 ≤ s.tote ∧ s.tote ≤ 30 ∧ 0 ≤ s.node ∧ m.w[s.tote.toNat]? = some (s.node + 1)
  s2 : ∀ (t : Nat) (v : Int), 1 ≤ t → m.w[t]? = some v → v > 0 → ∃ s ∈ r.sp, s.tote = (t : Int)
  t1 : ∀ x ∈ r.td, 1 ≤ x.dev ∧ ∃ y : Md, m.ds[x.dev.toNat]? = some y ∧ y.tote = x.tote ∧ y.tote ≠ 0 ∧ y.seq = x.seq
  t2 : ∀ (d : Nat) (y : Md), m.ds[d]? = some y → y.tote ≠ 0 → ∃ x ∈ r.td, x.dev = (d : Int)
  t3 : (r.td.map Td.dev).Nodup
  dn : r.dn = m.downs
  d0 : ∀ y : Md, m.ds[0]? = some y → y.down = false
  l1 : ∀ x ∈ r.ls, 1 ≤ x.dev ∧ ∃ y : Md, m.ds[x.dev.toNat]? = some y ∧ y.ever = true ∧ y.seq = x.seq
  l2 : ∀ (d : Nat) (y : Md), m.ds[d]? = some y → y.ever = true → ∃ x ∈ r.ls, x.dev = (d : Int)
  z1 : r.sp.length ≤ k
  z2 : r.td.length ≤ k
  z3 : r.ls.length ≤ k
theorem Sim.le {l : Lay} {m : Mi} {r : Rm} {k k' : Nat} (h : Sim l m r k) (hk : k ≤ k') : Sim l m r k' :=
  ⟨h.one, h.lay, h.n1, h.s1, h.s2, h.t1, h.t2, h.t3, h.dn, h.d0, h.l1, h.l2, Nat.le_trans h.z1 hk, Nat.le_trans h.z2 hk, Nat.le_trans h.z3 hk⟩
theorem nat_int {x : Int} (h : 0 ≤ x) : ((x.toNat : Nat) : Int) = x := by omega
section
variable {l : Lay} {m : Mi} {r : Rm} {k : Nat}
theorem Sim.loc (h : Sim l m r k) (t : Int) : r.loc t = m.loc t := by
  unfold Rm.loc Mi.loc
  cases hf : findX Sp.tote t r.sp 0 with
  | none =>
    have hno := findX_none.1 hf
    by_cases hn : noTote t = true
    · rw [if_pos hn]
    · rw [if_neg hn]
      simp only [Bool.not_eq_true] at hn
      have ht := noTote_in hn
      have htl : t.toNat < m.w.length := by have := h.one.ok.wl; omega
      have hr := h.one.ok.wr _ (List.getElem_mem htl)
      rw [List.getElem?_eq_getElem htl]
      simp only [Option.getD_some]
      by_cases hv : m.w[t.toNat] > 0
      · obtain ⟨s, hs, e⟩ := h.s2 t.toNat _ (by omega) (List.getElem?_eq_getElem htl) hv
        exact (hno s hs (by omega)).elim
      · omega
  | some p =>
    obtain ⟨i, s⟩ := p
    obtain ⟨hs, e, _⟩ := findX_mem hf
    obtain ⟨a1, a2, a3, a4⟩ := h.s1 s hs
    subst e
    rw [if_neg (by rw [noTote_out ⟨a1, a2⟩]; decide), a4]
    simp only [Option.getD_some]; omega
theorem Sim.tote (h : Sim l m r k) (n : Int) : r.tote n = m.tote n := by
  unfold Rm.tote Mi.tote
  cases hf : findX Sp.node n r.sp 0 with
  | none =>
    have hno := findX_none.1 hf
    by_cases hn : m.noNode n = true
    · rw [if_pos hn]
    · rw [if_neg hn]
      simp only [Bool.not_eq_true] at hn
      have hnr := noNode_in hn
      have hl : n.toNat < m.at_.length := by omega
      rw [List.getElem?_eq_getElem hl]
      simp only [Option.getD_some]
      rcases h.one.aw n.toNat _ (List.getElem?_eq_getElem hl) with a | ⟨a1, a2, a3⟩
      · exact a.symm
      · obtain ⟨s, hs, e⟩ := h.s2 _ _ (by omega) a3 (by omega)
        obtain ⟨b1, b2, b3, b4⟩ := h.s1 s hs
        rw [show s.tote.toNat = (m.at_[n.toNat]).toNat by omega, a3] at b4
        have b5 := Option.some.inj b4
        exact (hno s hs (by omega)).elim
  | some p =>
    obtain ⟨i, s⟩ := p
    obtain ⟨hs, e, _⟩ := findX_mem hf
    obtain ⟨a1, a2, a3, a4⟩ := h.s1 s hs
    subst e
    have ha := h.one.wa s.tote.toNat s.node.toNat (by omega) (by rw [a4]; congr 1; omega)
    have hl := (List.getElem?_eq_some_iff.1 ha).1
    rw [if_neg (by rw [noNode_out (by omega)]; decide), ha]
    simp only [Option.getD_some]; omega
theorem Sim.dev (h : Sim l m r k) {x : Td} (hx : x ∈ r.td) : 1 ≤ x.dev ∧ x.dev ≤ l.es.length := by
  obtain ⟨a1, y, a2, _⟩ := h.t1 x hx
  have := (List.getElem?_eq_some_iff.1 a2).1
  have h1 := h.one.ok.dl
  rw [h.one.es] at h1
  omega
theorem Sim.busy (h : Sim l m r k) (n : Int) : r.td.any (rbusyAt r.l.es n) = m.busy n := by
  rw [Bool.eq_iff_iff, List.any_eq_true]
  constructor
  · rintro ⟨x, hx, hb⟩
    obtain ⟨a1, y, a2, a3, a4, _⟩ := h.t1 x hx
    rw [h.lay, ← h.one.es] at hb
    unfold rbusyAt at hb
    have hi : (x.dev - 1).toNat = x.dev.toNat - 1 := by omega
    rw [hi] at hb
    split at hb
    · rename_i e he
      have := h.one.dt _ y e a2 a4 he
      refine busy_true a2 ?_
      simp only [busyAt, he, Bool.and_eq_true, decide_eq_true_eq]
      exact ⟨by omega, by simpa using hb⟩
    · cases hb
  · intro hb
    obtain ⟨j, hj, hb⟩ := List.any_eq_true.1 hb
    have hj := List.mem_range.1 hj
    simp only [List.getElem?_eq_getElem hj] at hb
    have hd := List.getElem?_eq_getElem hj
    generalize m.ds[j] = y at hb hd
    simp only [busyAt, Bool.and_eq_true, decide_eq_true_eq] at hb
    obtain ⟨b1, b2⟩ := hb
    obtain ⟨x, hx, e⟩ := h.t2 j y hd (by omega)
    refine ⟨x, hx, ?_⟩
    unfold rbusyAt
    rw [h.lay, ← h.one.es, show (x.dev - 1).toNat = j - 1 by omega]
    exact b2
theorem Sim.taken (h : Sim l m r k) {n : Int} (hn : m.noNode n = false) : r.taken n = m.taken n := by
  unfold Rm.taken Mi.taken
  rw [h.busy, h.tote, hn]
  simp only [Bool.not_false, Bool.true_and]
  rw [Mi.tote, if_neg (by rw [hn]; decide)]
theorem Sim.out (h : Sim l m r k) (t d : Int) : r.out t 0 d = (noTote t || m.noDev d) := by
  have h1 := h.one.ok.dl
  rw [h.one.es] at h1
  have := h.n1
  rw [Bool.eq_iff_iff]
  simp only [Rm.out, noTote, Mi.noDev, Bool.or_eq_true, decide_eq_true_eq, h.lay]
  omega
theorem Sim.find (h : Sim l m r k) {d : Int} (hd : m.noDev d = false) {y : Md} (hy : m.ds[d.toNat]? = some y) : (y.tote = 0 ∧ findX Td.dev d r.td 0 = none) ∨ (y.tote ≠ 0 ∧ ∃ i x, findX Td.dev d r.td 0 = some (i, x) ∧ x.tote = y.tote ∧ x.seq = y.seq) := by
  obtain ⟨_, d1, _⟩ := Mi.dev hd
  cases hf : findX Td.dev d r.td 0 with
  | none =>
    refine .inl ⟨?_, rfl⟩
    by_cases hz : y.tote = 0
    · exact hz
    · obtain ⟨x, hx, e⟩ := h.t2 _ y hy hz
      exact (findX_none.1 hf x hx (by omega)).elim
  | some p =>
    obtain ⟨i, x⟩ := p
    obtain ⟨hx, e, _⟩ := findX_mem hf
    obtain ⟨a1, y', a2, a3, a4, a5⟩ := h.t1 x hx
    rw [e, hy] at a2
    cases a2
    exact .inr ⟨a4, i, x, rfl, a3.symm, a5.symm⟩
theorem dnB_inv : ∀ {l : List Bool} {k : Nat} {v : Int}, v ∈ dnB l k → ∃ j, l[j]? = some true ∧ v = ((k + j : Nat) : Int)
  | [], k, v, h => by simp [dnB] at h
  | x :: l, k, v, h => by
    rw [dnB] at h
    split at h
    · rename_i hx
      rcases List.mem_cons.1 h with rfl | h
      · exact ⟨0, by simp [hx], by simp⟩
      · obtain ⟨j, a, b⟩ := dnB_inv h
        exact ⟨j + 1, by simpa using a, by rw [b]; congr 1; omega⟩
    · obtain ⟨j, a, b⟩ := dnB_inv h
      exact ⟨j + 1, by simpa using a, by rw [b]; congr 1; omega⟩
theorem Sim.isDown (h : Sim l m r k) {d : Nat} {y : Md} (hy : m.ds[d]? = some y) : r.isDown d = y.down := by
  have hm : (m.ds.map Md.down)[d]? = some y.down := by rw [List.getElem?_map, hy]; rfl
  unfold Rm.isDown
  rw [h.dn, Mi.downs, dn_B]
  cases hf : findX (fun x : Int => x) (d : Int) (dnB (m.ds.map Md.down) 0) 0 with
  | none =>
    have hno := findX_none.1 hf
    cases hd : y.down with
    | false => rfl
    | true =>
      rw [hd] at hm
      have := dnB_mem (k := 0) hm
      rw [Nat.zero_add] at this
      exact (hno _ this rfl).elim
  | some p =>
    obtain ⟨i, x⟩ := p
    obtain ⟨hx, e, _⟩ := findX_mem hf
    subst e
    obtain ⟨j, a, b⟩ := dnB_inv hx
    have : d = j := by omega
    subst this
    exact (Option.some.inj (hm.symm.trans a)).symm
theorem Sim.last (h : Sim l m r k) (d : Int) : r.last d = m.last d := by
  unfold Rm.last Mi.last
  cases hf : findX Td.dev d r.ls 0 with
  | none =>
    have hno := findX_none.1 hf
    simp only
    by_cases hn : m.noDev d = true
    · rw [if_pos hn]
    · rw [if_neg hn]
      simp only [Bool.not_eq_true] at hn
      obtain ⟨_, _, _, _, y, hy⟩ := Mi.dev hn
      simp only [hy]
      by_cases he : y.ever = true
      · obtain ⟨x, hx, e⟩ := h.l2 _ y hy he
        exact (hno x hx (by omega)).elim
      · rw [if_neg he]
  | some p =>
    obtain ⟨i, x⟩ := p
    obtain ⟨hx, e, _⟩ := findX_mem hf
    obtain ⟨a1, y, a2, a3, a4⟩ := h.l1 x hx
    subst e
    have := (List.getElem?_eq_some_iff.1 a2).1
    simp only
    rw [if_neg (by rw [noDev_out (by omega)]; decide), a2]
    simp only [a3, if_true, a4]
theorem Sim.told (h : Sim l m r k) (d : Int) : (findX Td.dev d r.td 0 = none ∧ m.told d = (0, 0, false)) ∨ ∃ i x, findX Td.dev d r.td 0 = some (i, x) ∧ m.told d = (x.tote, x.seq, true) := by
  unfold Mi.told
  by_cases hn : m.noDev d = true
  · refine .inl ⟨findX_none.2 fun x hx e => ?_, by rw [if_pos hn]⟩
    have h1 := h.dev hx
    have h2 := h.one.ok.dl
    rw [h.one.es] at h2
    rw [noDev_out (by omega)] at hn; cases hn
  · rw [if_neg hn]
    simp only [Bool.not_eq_true] at hn
    obtain ⟨_, _, _, _, y, hy⟩ := Mi.dev hn
    simp only [hy]
    rcases h.find hn hy with ⟨a, b⟩ | ⟨a, i, x, b, c, e⟩
    · exact .inl ⟨b, by rw [if_pos a]⟩
    · exact .inr ⟨i, x, b, by rw [if_neg a, c, e]⟩
end
end Go.Proofs.Ytjijhkmimjolhaa.Ab
