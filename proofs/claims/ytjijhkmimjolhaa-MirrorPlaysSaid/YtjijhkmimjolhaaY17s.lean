/- Chapter 17: plain law: a mirror is the document's, note by note. -/
import Derived.Test.YtjijhkmimjolhaaY17r
namespace Go.Proofs.Ytjijhkmimjolhaa.Ab
open Go
set_option linter.unusedVariables false
section
variable {l : Lay} {m : Mi} {r : Rm} {k : Nat}
theorem Sim.wloc (h : Sim l m r k) {t : Int} (ht : noTote t = false) : r.loc t = m.w[t.toNat]?.getD 0 - 1 := by
  rw [h.loc, Mi.loc, if_neg (by rw [ht]; decide)]
theorem Sim.put (h : Sim l m r k) (t n : Int) : (m.put t n).2 = (r.put t n).2 ∧ Sim l (m.put t n).1 (r.put t n).1 (k + 1) := by
  have hal := h.one.al
  have ok := Mi.put_ok h.one.ok t n
  have same : Sim l m r (k + 1) := h.le (by omega)
  unfold Mi.put at ok ⊢
  unfold Rm.put
  by_cases c1 : noTote t = true ∨ m.noNode n = true
  · have c2 : t < 1 ∨ 30 < t ∨ n < 0 ∨ (r.l.ns.length : Int) ≤ n := by
      rw [h.lay]
      simp only [noTote, Mi.noNode, decide_eq_true_eq] at c1
      omega
    rw [if_pos c1, if_pos c2]
    exact ⟨by trivial, same⟩
  have c2 : ¬(t < 1 ∨ 30 < t ∨ n < 0 ∨ (r.l.ns.length : Int) ≤ n) := by
    rw [h.lay]
    simp only [noTote, Mi.noNode, decide_eq_true_eq] at c1
    omega
  rw [if_neg c1] at ok ⊢
  rw [if_neg c2]
  simp only [not_or, Bool.not_eq_true] at c1
  obtain ⟨ht, hn⟩ := c1
  have hloc := h.wloc ht
  by_cases c3 : m.w[t.toNat]?.getD 0 > 0
  · rw [if_pos c3, if_pos (show 0 ≤ r.loc t by omega)]; exact ⟨by trivial, same⟩
  rw [if_neg c3] at ok ⊢
  rw [if_neg (show ¬(0 ≤ r.loc t) by omega), h.taken hn]
  by_cases c4 : m.taken n = true
  · rw [if_pos c4, if_pos c4]; exact ⟨by trivial, same⟩
  rw [if_neg c4] at ok ⊢
  rw [if_neg c4]
  simp only [Bool.not_eq_true] at c4
  have htr := noTote_in ht
  have hnr := noNode_in hn
  have htl : t.toNat < m.w.length := by have := h.one.ok.wl; omega
  have hz1 := h.z1
  have hz2 := h.z2
  have hz3 := h.z3
  refine ⟨by trivial, h.one.put ht hn c3 c4 ok, h.lay, h.n1, fun s hs => ?_, fun t' v ht' hv hv0 => ?_, h.t1, h.t2, h.t3, h.dn, h.d0, h.l1, h.l2, by simp; omega, Nat.le_succ_of_le h.z2, Nat.le_succ_of_le h.z3⟩
  · rcases List.mem_append.1 hs with hs | hs
    · obtain ⟨a1, a2, a3, a4⟩ := h.s1 s hs
      have hne : t.toNat ≠ s.tote.toNat := fun e => by
        rw [e, a4] at c3; simp only [Option.getD_some] at c3; omega
      refine ⟨a1, a2, a3, ?_⟩
      simp only; rw [List.getElem?_set_ne hne]; exact a4
    · rw [List.mem_singleton.1 hs]
      exact ⟨htr.1, htr.2, hnr.1, List.getElem?_set_self htl⟩
  · simp only at hv
    rcases get_set hv with ⟨e1, _, _⟩ | ⟨_, e2⟩
    · exact ⟨⟨t, n⟩, by simp, by simp only; omega⟩
    · obtain ⟨s, hs, e⟩ := h.s2 t' v ht' e2 hv0
      exact ⟨s, by simp [hs], e⟩
theorem nodup_app {x : Td} {a : List Td} (h : (a.map Td.dev).Nodup) (hn : ∀ y ∈ a, y.dev ≠ x.dev) : ((a ++ [x]).map Td.dev).Nodup := by
  rw [List.map_append, List.nodup_append]
  refine ⟨h, by simp, fun y hy z hz => ?_⟩
  obtain ⟨y', h1, rfl⟩ := List.mem_map.1 hy
  simp only [List.map_cons, List.map_nil, List.mem_singleton] at hz
  subst hz
  exact hn y' h1
theorem downs_set {l : List Md} {d : Nat} {x y : Md} (hx : l[d]? = some x) (hy : y.down = x.down) : dn (l.set d y) 0 = dn l 0 := by
  rw [dn_B, dn_B, List.map_set]
  congr 1
  apply List.ext_getElem?
  intro j
  by_cases e : d = j
  · subst e
    rw [List.getElem?_set_self (by rw [List.length_map]; exact (List.getElem?_eq_some_iff.1 hx).1), List.getElem?_map, hx, hy]; rfl
  · rw [List.getElem?_set_ne e]
theorem Sim.send (h : Sim l m r k) (d t s : Int) : (m.send d t s).2 = (r.send d t s).2 ∧ Sim l (m.send d t s).1 (r.send d t s).1 (k + 1) := by
  have ok := Mi.send_ok h.one.ok d t s
  have same : Sim l m r (k + 1) := h.le (by omega)
  have hout := h.out t d
  unfold Mi.send at ok ⊢
  unfold Rm.send
  by_cases c1 : noTote t = true ∨ m.noDev d = true ∨ s < 0 ∨ 65535 < s
  · have c2 : (r.out t 0 d = true ∨ s < 0) ∨ 65535 < s := by
      rw [hout, Bool.or_eq_true]
      rcases c1 with c | c | c | c
      · exact .inl (.inl (.inl c))
      · exact .inl (.inl (.inr c))
      · exact .inl (.inr c)
      · exact .inr c
    rw [if_pos c1, if_pos c2]
    exact ⟨by trivial, same⟩
  have c2 : ¬((r.out t 0 d = true ∨ s < 0) ∨ 65535 < s) := by
    rw [hout, Bool.or_eq_true]
    intro c
    rcases c with ((c | c) | c) | c
    · exact c1 (.inl c)
    · exact c1 (.inr (.inl c))
    · exact c1 (.inr (.inr (.inl c)))
    · exact c1 (.inr (.inr (.inr c)))
  rw [if_neg c1] at ok ⊢
  rw [if_neg c2]
  simp only [not_or, Bool.not_eq_true] at c1
  obtain ⟨ht, hd, _⟩ := c1
  obtain ⟨d0, d1, d2, d3, y, hy⟩ := Mi.dev hd
  have hdl := h.one.ok.dl
  have r2 : (d - 1).toNat < m.es.length := by omega
  obtain ⟨e, he⟩ : ∃ e, m.es[(d - 1).toNat]? = some e := ⟨_, List.getElem?_eq_getElem r2⟩
  have hed := h.one.ok.ed e (List.mem_of_getElem? he)
  simp only [hy, he] at ok ⊢
  have he2 : r.l.es[(d - 1).toNat]? = some e := by rw [h.lay, ← h.one.es]; exact he
  simp only [he2]
  have hdn := h.isDown hy
  rw [nat_int d0] at hdn
  have hfd : 0 ≤ r.fnd d ↔ y.tote > 0 := by
    unfold Rm.fnd
    rcases h.find hd hy with ⟨a, b⟩ | ⟨a, i, x, b, c, f⟩
    · rw [b]; simp only; omega
    · rw [b]; simp only
      have hi : (d - 1).toNat = d.toNat - 1 := by omega
      rw [hi] at he
      have := h.one.dt _ y e hy a he
      omega
  by_cases c3 : y.down = true ∨ y.tote > 0
  · rw [if_pos c3, if_pos (show r.isDown d = true ∨ 0 ≤ r.fnd d by rw [hdn, hfd]; exact c3)]; exact ⟨by trivial, same⟩
  rw [if_neg c3] at ok ⊢
  rw [if_neg (show ¬(r.isDown d = true ∨ 0 ≤ r.fnd d) by rw [hdn, hfd]; exact c3), h.loc]
  have hhas : r.td.any (fun x => decide (x.tote = t)) = hasT m.ds t := by
    rw [Bool.eq_iff_iff, hasT, List.any_eq_true, List.any_eq_true]
    constructor
    · rintro ⟨x, hx, e⟩
      obtain ⟨a1, y', a2, a3, a4, a5⟩ := h.t1 x hx
      exact ⟨y', List.mem_of_getElem? a2, by rw [a3]; exact e⟩
    · rintro ⟨y', hy', e⟩
      obtain ⟨j, hj⟩ := List.mem_iff_getElem?.1 hy'
      have e' := of_decide_eq_true e
      have htr := noTote_in ht
      obtain ⟨x, hx, e2⟩ := h.t2 j y' hj (by omega)
      obtain ⟨a1, y2, a2, a3, _⟩ := h.t1 x hx
      have : x.dev.toNat = j := by omega
      rw [this, hj] at a2; cases a2
      exact ⟨x, hx, by rw [← a3]; exact e⟩
  rw [hhas]
  have hnn := noNode_out (m := m) (n := e.b) ⟨hed.2.2.1, hed.2.2.2.1⟩
  rw [h.taken hnn]
  by_cases c4 : m.loc t = e.a
  rotate_left
  · rw [if_pos (.inl c4), if_neg c4]; exact ⟨by trivial, same⟩
  by_cases c5 : hasT m.ds t = true
  · rw [if_pos (.inr c5), if_pos c4, if_pos c5]; exact ⟨by trivial, same⟩
  rw [if_neg (show ¬(m.loc t ≠ e.a ∨ hasT m.ds t = true) by simp [c4, c5])] at ok ⊢
  rw [if_pos c4, if_neg c5]
  by_cases c6 : m.taken e.b = true
  · rw [if_pos c6, if_pos c6]; exact ⟨by trivial, same⟩
  rw [if_neg c6] at ok ⊢
  rw [if_neg c6]
  simp only [not_or, Bool.not_eq_true] at c3 c5 c6
  have hy0 : y.tote = 0 := by
    rcases h.find hd hy with ⟨a, _⟩ | ⟨a, _⟩
    · exact a
    · have hi : (d - 1).toNat = d.toNat - 1 := by omega
      rw [hi] at he
      have := h.one.dt _ y e hy a he
      omega
  have htr := noTote_in ht
  have hno : ∀ x ∈ r.td, x.dev ≠ d := fun x hx e' => by
    obtain ⟨a1, y', a2, a3, a4, _⟩ := h.t1 x hx
    rw [e', hy] at a2; cases a2
    exact a4 hy0
  have hz1 := h.z1
  have hz2 := h.z2
  have hz3 := h.z3
  have hset : (m.ds.set d.toNat ⟨t, s, true, y.down⟩)[d.toNat]? = some ⟨t, s, true, y.down⟩ := List.getElem?_set_self d3
  refine ⟨by trivial, h.one.send hd ht hy he c3.2 c4 c5 c6 rfl ok, h.lay, h.n1, h.s1, h.s2, fun x hx => ?_, fun j z hz hz0 => ?_, nodup_app h.t3 hno, ?_, fun z hz => ?_, fun x hx => ?_, fun j z hz hz0 => ?_, by simp only; omega, by simp; omega, ?_⟩
  · rcases List.mem_append.1 hx with hx | hx
    · obtain ⟨a1, y', a2, a3, a4, a5⟩ := h.t1 x hx
      have hne : d.toNat ≠ x.dev.toNat := fun e' => hno x hx (by omega)
      exact ⟨a1, y', by simp only; rw [List.getElem?_set_ne hne]; exact a2, a3, a4, a5⟩
    · rw [List.mem_singleton.1 hx]
      exact ⟨d1, _, hset, rfl, by simp only; omega, rfl⟩
  · simp only at hz
    rcases get_set hz with ⟨e1, e2, _⟩ | ⟨e1, e2⟩
    · exact ⟨⟨d, t, s⟩, by simp, by simp only; omega⟩
    · obtain ⟨x, hx, e3⟩ := h.t2 j z e2 hz0
      exact ⟨x, by simp [hx], e3⟩
  · rw [h.dn]; exact (downs_set (y := ⟨t, s, true, y.down⟩) hy rfl).symm
  · simp only at hz
    rw [List.getElem?_set_ne (by omega)] at hz
    exact h.d0 z hz
  · rcases List.mem_cons.1 hx with rfl | hx
    · exact ⟨d1, _, hset, rfl, rfl⟩
    · obtain ⟨hx, hxd⟩ := List.mem_filter.1 hx
      obtain ⟨a1, y', a2, a3, a4⟩ := h.l1 x hx
      have hne : d.toNat ≠ x.dev.toNat := fun e' => by
        simp only [notDev, Bool.not_eq_true', decide_eq_false_iff_not] at hxd
        omega
      exact ⟨a1, y', by simp only; rw [List.getElem?_set_ne hne]; exact a2, a3, a4⟩
  · simp only at hz
    rcases get_set hz with ⟨e1, e2, _⟩ | ⟨e1, e2⟩
    · exact ⟨⟨d, t, s⟩, by simp, by simp only; omega⟩
    · obtain ⟨x, hx, e3⟩ := h.l2 j z e2 hz0
      refine ⟨x, List.mem_cons_of_mem _ (List.mem_filter.2 ⟨hx, ?_⟩), e3⟩
      simp only [notDev, Bool.not_eq_true', decide_eq_false_iff_not]
      omega
  · have := List.length_filter_le (notDev d) r.ls
    simp only [List.length_cons]; omega
theorem mem_wout {α : Type} {l : List α} {i : Nat} {x : α} (h : x ∈ wout l i) : x ∈ l := by
  rcases List.mem_append.1 h with h | h
  · exact List.mem_of_mem_take h
  · exact List.mem_of_mem_drop h
theorem wout_split {l : List Td} {i : Nat} {x : Td} (h : l[i]? = some x) : l = l.take i ++ x :: l.drop (i + 1) := by
  have hl := (List.getElem?_eq_some_iff.1 h).1
  have : l.drop i = x :: l.drop (i + 1) := by
    rw [List.drop_eq_getElem_cons hl]
    congr 1
    exact (List.getElem?_eq_some_iff.1 h).2
  rw [← this, List.take_append_drop]
theorem wout_nodup {l : List Td} {i : Nat} {x : Td} (hn : (l.map Td.dev).Nodup) (h : l[i]? = some x) : ((wout l i).map Td.dev).Nodup ∧ (∀ y ∈ wout l i, y.dev ≠ x.dev) ∧ (∀ y ∈ l, y.dev ≠ x.dev → y ∈ wout l i) ∧ (wout l i).length ≤ l.length := by
  have hs := wout_split h
  unfold wout
  generalize l.take i = a at hs
  generalize l.drop (i + 1) = b at hs
  subst hs
  rw [List.map_append, List.map_cons, List.nodup_append] at hn
  obtain ⟨h1, h2, h3⟩ := hn
  obtain ⟨h4, h5⟩ := List.nodup_cons.1 h2
  refine ⟨?_, fun y hy => ?_, fun y hy hne => ?_, by simp⟩
  · rw [List.map_append, List.nodup_append]
    exact ⟨h1, h5, fun y hy z hz => h3 y hy z (.tail _ hz)⟩
  · rcases List.mem_append.1 hy with hy | hy
    · exact h3 _ (List.mem_map_of_mem hy) _ (.head _)
    · exact fun e => h4 (e ▸ List.mem_map_of_mem hy)
  · rcases List.mem_append.1 hy with hy | hy
    · exact List.mem_append_left _ hy
    · rcases List.mem_cons.1 hy with rfl | hy
      · exact (hne rfl).elim
      · exact List.mem_append_right _ hy
/-- what a device was told is taken out -/
theorem Sim.untold (h : Sim l m r k) {d : Int} {y : Md} (hd : m.noDev d = false) (hy : m.ds[d.toNat]? = some y) {i : Nat} {x : Td} (hf : findX Td.dev d r.td 0 = some (i, x)) :
    (∀ z ∈ wout r.td i, 1 ≤ z.dev ∧ ∃ q : Md, (m.ds.set d.toNat ⟨0, y.seq, y.ever, y.down⟩)[z.dev.toNat]? = some q ∧ q.tote = z.tote ∧ q.tote ≠ 0 ∧ q.seq = z.seq) ∧
    (∀ (j : Nat) (q : Md), (m.ds.set d.toNat ⟨0, y.seq, y.ever, y.down⟩)[j]? = some q → q.tote ≠ 0 → ∃ z ∈ wout r.td i, z.dev = (j : Int)) ∧ ((wout r.td i).map Td.dev).Nodup ∧
    r.dn = Ab.dn (m.ds.set d.toNat ⟨0, y.seq, y.ever, y.down⟩) 0 ∧ (∀ q : Md, (m.ds.set d.toNat ⟨0, y.seq, y.ever, y.down⟩)[0]? = some q → q.down = false) ∧
    (∀ z ∈ r.ls, 1 ≤ z.dev ∧ ∃ q : Md, (m.ds.set d.toNat ⟨0, y.seq, y.ever, y.down⟩)[z.dev.toNat]? = some q ∧ q.ever = true ∧ q.seq = z.seq) ∧
    (∀ (j : Nat) (q : Md), (m.ds.set d.toNat ⟨0, y.seq, y.ever, y.down⟩)[j]? = some q → q.ever = true → ∃ z ∈ r.ls, z.dev = (j : Int)) ∧ (wout r.td i).length ≤ k := by
  obtain ⟨d0, d1, d2, d3, _⟩ := Mi.dev hd
  obtain ⟨hx, e, hi⟩ := findX_mem hf
  obtain ⟨w1, w2, w3, w4⟩ := wout_nodup h.t3 hi
  refine ⟨fun z hz => ?_, fun j q hq hq0 => ?_, w1, ?_, fun q hq => ?_, fun z hz => ?_, fun j q hq hq0 => ?_, Nat.le_trans w4 h.z2⟩
  · obtain ⟨a1, q, a2, a3⟩ := h.t1 z (mem_wout hz)
    have hne : d.toNat ≠ z.dev.toNat := fun e' => w2 z hz (by omega)
    exact ⟨a1, q, by rw [List.getElem?_set_ne hne]; exact a2, a3⟩
  · rcases get_set hq with ⟨e1, e2, _⟩ | ⟨e1, e2⟩
    · subst e2; exact (hq0 rfl).elim
    · obtain ⟨z, hz, e3⟩ := h.t2 j q e2 hq0
      exact ⟨z, w3 z hz (by omega), e3⟩
  · rw [h.dn]; exact (downs_set (y := ⟨0, y.seq, y.ever, y.down⟩) hy rfl).symm
  · rw [List.getElem?_set_ne (by omega)] at hq; exact h.d0 q hq
  · obtain ⟨a1, q, a2, a3, a4⟩ := h.l1 z hz
    by_cases hne : d.toNat = z.dev.toNat
    · rw [← hne, hy] at a2; cases a2
      exact ⟨a1, ⟨0, y.seq, y.ever, y.down⟩, by rw [← hne]; exact List.getElem?_set_self d3, a3, a4⟩
    · exact ⟨a1, q, by rw [List.getElem?_set_ne hne]; exact a2, a3, a4⟩
  · rcases get_set hq with ⟨e1, e2, _⟩ | ⟨e1, e2⟩
    · subst e1 e2; exact h.l2 _ y hy hq0
    · exact h.l2 j q e2 hq0
theorem Sim.drop (h : Sim l m r k) (d : Int) : (m.drop d).2 = (r.drop d).2 ∧ Sim l (m.drop d).1 (r.drop d).1 (k + 1) := by
  have ok := Mi.drop_ok h.one.ok d
  have same : Sim l m r (k + 1) := h.le (by omega)
  have hout := h.out 1 d
  rw [show noTote 1 = false from rfl, Bool.false_or] at hout
  unfold Mi.drop at ok ⊢
  unfold Rm.drop
  rw [hout]
  by_cases c1 : m.noDev d = true
  · rw [if_pos c1, if_pos c1]; exact ⟨by trivial, same⟩
  rw [if_neg c1] at ok ⊢
  rw [if_neg c1]
  simp only [Bool.not_eq_true] at c1
  obtain ⟨d0, d1, d2, d3, y, hy⟩ := Mi.dev c1
  simp only [hy] at ok ⊢
  rcases h.find c1 hy with ⟨a, b⟩ | ⟨a, i, x, b, c, f⟩
  · rw [if_pos a]; simp only [b]; exact ⟨by trivial, same⟩
  · rw [if_neg a] at ok ⊢
    simp only [b]
    obtain ⟨u1, u2, u3, u4, u5, u6, u7, u8⟩ := h.untold c1 hy b
    exact ⟨by trivial, h.one.dev0 (.inl rfl) ok, h.lay, h.n1, h.s1, h.s2, u1, u2, u3, u4, u5, u6, u7, Nat.le_succ_of_le h.z1, Nat.le_succ_of_le u8, Nat.le_succ_of_le h.z3⟩
theorem Sim.moved (h : Sim l m r k) (d t : Int) : (m.moved d t).2 = (r.moved d t).2 ∧ Sim l (m.moved d t).1 (r.moved d t).1 (k + 1) := by
  have ok := Mi.moved_ok h.one.ok d t
  have same : Sim l m r (k + 1) := h.le (by omega)
  have hout := h.out t d
  unfold Mi.moved at ok ⊢
  unfold Rm.moved
  by_cases c1 : noTote t = true ∨ m.noDev d = true
  · rw [if_pos c1, if_pos (show r.out t 0 d = true by rw [hout, Bool.or_eq_true]; exact c1)]; exact ⟨by trivial, same⟩
  rw [if_neg c1] at ok ⊢
  rw [if_neg (show ¬(r.out t 0 d = true) by rw [hout, Bool.or_eq_true]; exact c1)]
  simp only [not_or, Bool.not_eq_true] at c1
  obtain ⟨ht, hd⟩ := c1
  obtain ⟨d0, d1, d2, d3, y, hy⟩ := Mi.dev hd
  have hdl := h.one.ok.dl
  have r2 : (d - 1).toNat < m.es.length := by omega
  obtain ⟨e, he⟩ : ∃ e, m.es[(d - 1).toNat]? = some e := ⟨_, List.getElem?_eq_getElem r2⟩
  have he2 : r.l.es[(d - 1).toNat]? = some e := by rw [h.lay, ← h.one.es]; exact he
  simp only [hy, he] at ok ⊢
  rcases h.find hd hy with ⟨a, b⟩ | ⟨a, i, x, b, c, f⟩
  · rw [if_pos a]; simp only [b]; exact ⟨by trivial, same⟩
  rw [if_neg a] at ok ⊢
  simp only [b, c, he2]
  by_cases c2 : y.tote = t
  rotate_left
  · rw [if_neg c2, if_neg c2]; exact ⟨by trivial, same⟩
  rw [if_pos c2] at ok ⊢
  rw [if_pos c2]
  obtain ⟨u1, u2, u3, u4, u5, u6, u7, u8⟩ := h.untold hd hy b
  have hed := h.one.ok.ed e (List.mem_of_getElem? he)
  have htr := noTote_in ht
  have htl : t.toNat < m.w.length := by have := h.one.ok.wl; omega
  have hi : (d - 1).toNat = d.toNat - 1 := by omega
  obtain ⟨_, _, hwx, _⟩ := h.one.dt _ y e hy a (by rw [← hi]; exact he)
  rw [c2] at hwx
  refine ⟨by trivial, h.one.moved hd ht hy he c2 rfl ok, h.lay, h.n1, fun s hs => ?_, fun t' v ht' hv hv0 => ?_, u1, u2, u3, u4, u5, u6, u7, by rw [List.length_map]; exact Nat.le_succ_of_le h.z1, Nat.le_succ_of_le u8, Nat.le_succ_of_le h.z3⟩
  · obtain ⟨s', hs', rfl⟩ := List.mem_map.1 hs
    obtain ⟨a1, a2, a3, a4⟩ := h.s1 s' hs'
    unfold mvS
    by_cases hst : s'.tote = t
    · rw [if_pos hst]
      refine ⟨a1, a2, hed.2.2.1, ?_⟩
      simp only
      rw [hst]; exact List.getElem?_set_self htl
    · rw [if_neg hst]
      refine ⟨a1, a2, a3, ?_⟩
      simp only
      rw [List.getElem?_set_ne (by omega)]; exact a4
  · simp only at hv
    have key : ∃ s ∈ r.sp, s.tote = (t' : Int) := by
      rcases get_set hv with ⟨e1, _, _⟩ | ⟨_, e2⟩
      · exact h.s2 t' (e.a + 1) ht' (by rw [← e1]; exact hwx) (by omega)
      · exact h.s2 t' v ht' e2 hv0
    obtain ⟨s, hs, e3⟩ := key
    refine ⟨mvS t e.b s, List.mem_map_of_mem hs, ?_⟩
    unfold mvS
    split <;> exact e3
theorem Sim.mask (h : Sim l m r k) (d : Int) (b : Bool) : (m.mask d b).2 = (r.mask d b).2 ∧ Sim l (m.mask d b).1 (r.mask d b).1 (k + 1) := by
  have ok := Mi.mask_ok h.one.ok d b
  have same : Sim l m r (k + 1) := h.le (by omega)
  have hout := h.out 1 d
  rw [show noTote 1 = false from rfl, Bool.false_or] at hout
  unfold Mi.mask at ok ⊢
  unfold Rm.mask
  rw [hout]
  by_cases c1 : m.noDev d = true
  · rw [if_pos c1, if_pos c1]; exact ⟨by trivial, same⟩
  rw [if_neg c1] at ok ⊢
  rw [if_neg c1]
  simp only [Bool.not_eq_true] at c1
  obtain ⟨d0, d1, d2, d3, y, hy⟩ := Mi.dev c1
  simp only [hy] at ok ⊢
  have hdl := h.one.ok.dl
  have hset : (m.ds.set d.toNat ⟨y.tote, y.seq, y.ever, b⟩)[d.toNat]? = some ⟨y.tote, y.seq, y.ever, b⟩ := List.getElem?_set_self d3
  refine ⟨by trivial, h.one.dev0 (.inr ⟨y, hy, rfl⟩) ok, h.lay, h.n1, h.s1, h.s2, fun x hx => ?_, fun j z hz hz0 => ?_, h.t3, ?_, fun z hz => ?_, fun x hx => ?_, fun j z hz hz0 => ?_, Nat.le_succ_of_le h.z1, Nat.le_succ_of_le h.z2, Nat.le_succ_of_le h.z3⟩
  · obtain ⟨a1, q, a2, a3⟩ := h.t1 x hx
    by_cases hne : d.toNat = x.dev.toNat
    · rw [← hne, hy] at a2; cases a2
      exact ⟨a1, ⟨y.tote, y.seq, y.ever, b⟩, by simp only; rw [← hne]; exact hset, a3⟩
    · exact ⟨a1, q, by simp only; rw [List.getElem?_set_ne hne]; exact a2, a3⟩
  · simp only at hz
    rcases get_set hz with ⟨e1, e2, _⟩ | ⟨e1, e2⟩
    · subst e1 e2; exact h.t2 _ y hy hz0
    · exact h.t2 j z e2 hz0
  · simp only [Mi.downs]
    rw [dn_B]
    congr 1
    apply List.ext_getElem?
    intro j
    rw [List.map_set, h.lay, ← h.one.es]
    by_cases hj : j < m.es.length + 1
    · rw [List.getElem?_map, List.getElem?_range hj]
      simp only [Option.map_some, mskB]
      have hjd : j < m.ds.length := by omega
      have hg := List.getElem?_eq_getElem hjd
      generalize m.ds[j] = z at hg
      have hdw := h.isDown hg
      by_cases e1 : d.toNat = j
      · subst e1
        rw [List.getElem?_set_self (by rw [List.length_map]; exact d3), nat_int d0]
        rw [decide_eq_true (show d.toNat ≠ 0 by omega)]
        simp
      · rw [List.getElem?_set_ne e1, List.getElem?_map, hg]
        simp only [Option.map_some, hdw]
        rw [decide_eq_false (show ¬((j : Int) = d) by omega), decide_eq_true (show (j : Int) ≠ d by omega)]
        by_cases j0 : j = 0
        · subst j0
          rw [h.d0 z hg]; simp
        · rw [decide_eq_true j0]; simp
    · rw [List.getElem?_eq_none (by simp; omega), List.getElem?_eq_none (by simp; omega)]
  · simp only at hz
    rw [List.getElem?_set_ne (by omega)] at hz
    exact h.d0 z hz
  · obtain ⟨a1, q, a2, a3⟩ := h.l1 x hx
    by_cases hne : d.toNat = x.dev.toNat
    · rw [← hne, hy] at a2; cases a2
      exact ⟨a1, ⟨y.tote, y.seq, y.ever, b⟩, by simp only; rw [← hne]; exact hset, a3⟩
    · exact ⟨a1, q, by simp only; rw [List.getElem?_set_ne hne]; exact a2, a3⟩
  · simp only at hz
    rcases get_set hz with ⟨e1, e2, _⟩ | ⟨e1, e2⟩
    · subst e1 e2; exact h.l2 _ y hy hz0
    · exact h.l2 j z e2 hz0
theorem Sim.apply (h : Sim l m r k) (n : Nt) : (m.apply n).2 = (r.apply n).2 ∧ Sim l (m.apply n).1 (r.apply n).1 (k + 1) := by
  unfold Mi.apply Rm.apply
  split
  · exact h.put n.a n.b
  split
  · exact h.send n.a n.b n.c
  split
  · exact h.moved n.a n.b
  split
  · exact h.drop n.a
  split
  · exact h.mask n.a _
  · exact ⟨rfl, h.le (by omega)⟩
theorem Sim.new {l : Lay} (hg : l.good = true) : Sim l (Mi.new l) (Rm.new l) 0 := by
  have hds : ∀ (j : Nat) (d : Md), (Mi.new l).ds[j]? = some d → d = ⟨0, 0, false, false⟩ := fun j d h => by
    have := List.mem_of_getElem? h
    simp only [Mi.new] at this
    exact (List.mem_replicate.1 this).2
  have hw0 : ∀ (j : Nat) (v : Int), (Mi.new l).w[j]? = some v → v = 0 := fun j d h => by
    have := List.mem_of_getElem? h
    simp only [Mi.new] at this
    exact (List.mem_replicate.1 this).2
  have hz0 : ∀ x ∈ (Mi.new l).at_, x = 0 := fun x hx => by
    simp only [Mi.new] at hx
    exact (List.mem_replicate.1 hx).2
  refine ⟨One.new (Mi.new_ok hg) rfl (by simp [Mi.new]) hds hw0 hz0, rfl, (good_sz hg).1, fun s hs => by simp [Rm.new] at hs, fun t v _ hv hv0 => (by have := hw0 t v hv; omega), fun x hx => (by simp [Rm.new] at hx), fun d y hy hy0 => (by rw [hds d y hy] at hy0; exact (hy0 rfl).elim), by simp [Rm.new], ?_, fun y hy => by rw [hds 0 y hy], fun x hx => by simp [Rm.new] at hx, fun d y hy hy0 => (by rw [hds d y hy] at hy0; cases hy0), Nat.le_refl _, Nat.le_refl _, Nat.le_refl _⟩
  simp only [Rm.new, Mi.downs, dn_B]
  have hB : ∀ (L : List Bool) (j : Nat), (∀ x ∈ L, x = false) → dnB L j = [] := fun L => by
    induction L with
    | nil => intro j _; rfl
    | cons x L ih => intro j hx; rw [dnB, if_neg (by rw [hx x (.head _)]; decide)]; exact ih (j + 1) fun y hy => hx y (.tail _ hy)
  refine (hB _ 0 fun x hx => ?_).symm
  obtain ⟨y, hy, rfl⟩ := List.mem_map.1 hx
  obtain ⟨j, hj⟩ := List.mem_iff_getElem?.1 hy
  rw [hds j y hj]
theorem Sim.sz (h : Sim l m r k) (hk : k ≤ 100000) (hl : l.ns.length ≤ 100000 ∧ l.es.length ≤ 100000) : r.Sz := by
  have h1 := h.z1
  have h2 := h.z2
  have h3 := h.z3
  refine ⟨by rw [h.lay]; exact hl.1, by rw [h.lay]; exact hl.2, by omega, by omega, ?_, by omega, fun x hx => by rw [h.lay]; exact h.dev hx⟩
  rw [h.dn]
  have := dn_len m.ds 0
  have h4 := h.one.ok.dl
  have h5 := h.one.ok.el
  exact Nat.le_trans this (by omega)
end
end Go.Proofs.Ytjijhkmimjolhaa.Ab
