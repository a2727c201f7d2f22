/- Chapter 17: plain law: no two totes at one node, no two devices told to move to one. -/
import Derived.Test.YtjijhkmimjolhaaY17ga
namespace Go.Proofs.Ytjijhkmimjolhaa.Ab
open Go
set_option linter.unusedVariables false
structure One (l : Lay) (m : Mi) : Prop where
  ok : m.Ok
  es : m.es = l.es
  al : m.at_.length = l.ns.length
  wa : ∀ t k : Nat, 1 ≤ t → m.w[t]? = some ((k : Int) + 1) → m.at_[k]? = some (t : Int)
  aw : ∀ (k : Nat) (y : Int), m.at_[k]? = some y → y = 0 ∨ (1 ≤ y ∧ y ≤ 30 ∧ m.w[y.toNat]? = some ((k : Int) + 1))
  dt : ∀ (j : Nat) (x : Md) (e : Ed), m.ds[j]? = some x → x.tote ≠ 0 → m.es[j - 1]? = some e → 1 ≤ x.tote ∧ x.tote ≤ 30 ∧ m.w[x.tote.toNat]? = some (e.a + 1) ∧ m.at_[e.b.toNat]? = some 0
  ut : ∀ (i j : Nat) (x y : Md), m.ds[i]? = some x → m.ds[j]? = some y → x.tote ≠ 0 → x.tote = y.tote → i = j
  ub : ∀ (i j : Nat) (x y : Md) (e f : Ed), m.ds[i]? = some x → m.ds[j]? = some y → x.tote ≠ 0 → y.tote ≠ 0 → m.es[i - 1]? = some e → m.es[j - 1]? = some f → e.b = f.b → i = j
theorem One.new {l : Lay} {m : Mi} (hk : m.Ok) (he : m.es = l.es) (hl : m.at_.length = l.ns.length) (hd : ∀ (j : Nat) (d : Md), m.ds[j]? = some d → d = ⟨0, 0, false, false⟩) (hw : ∀ (j : Nat) (v : Int), m.w[j]? = some v → v = 0) (hz : ∀ x ∈ m.at_, x = 0) : One l m :=
  ⟨hk, he, hl, fun t k _ h => by have := hw t _ h; omega, fun k y h => .inl (hz y (List.mem_of_getElem? h)), fun j x e h h0 => by rw [hd j x h] at h0; exact (h0 rfl).elim,
    fun i j x y h _ h0 => by rw [hd i x h] at h0; exact (h0 rfl).elim, fun i j x y e f h _ h0 => by rw [hd i x h] at h0; exact (h0 rfl).elim⟩
theorem noBusy {m : Mi} {n : Int} (h : m.busy n = false) {j : Nat} {x : Md} {e : Ed} (hx : m.ds[j]? = some x) (he : m.es[j - 1]? = some e) (h0 : x.tote > 0) : e.b ≠ n := fun hb => by
  have := busy_true hx (show busyAt m.es n j x = true by simp only [busyAt, he, decide_eq_true h0, decide_eq_true hb]; rfl)
  rw [h] at this; cases this
theorem free {m : Mi} {n : Int} (hn : m.noNode n = false) (h : m.taken n = false) : m.busy n = false ∧ ∃ y, m.at_[n.toNat]? = some y ∧ ¬y > 0 := by
  rw [Mi.taken, hn] at h
  simp only [Bool.not_false, Bool.true_and, Bool.or_eq_false_iff, decide_eq_false_iff_not] at h
  have hr := noNode_in hn
  have hl : n.toNat < m.at_.length := by omega
  rw [List.getElem?_eq_getElem hl] at h
  exact ⟨h.1, _, List.getElem?_eq_getElem hl, h.2⟩
theorem get_set {α : Type} {l : List α} {i j : Nat} {v x : α} (h : (l.set i v)[j]? = some x) : (i = j ∧ x = v ∧ i < l.length) ∨ (i ≠ j ∧ l[j]? = some x) := by
  by_cases e : i = j
  · subst e
    rw [List.getElem?_set] at h
    simp only [if_true] at h
    split at h
    · rename_i hl; cases h; exact .inl ⟨rfl, rfl, hl⟩
    · cases h
  · rw [List.getElem?_set_ne e] at h; exact .inr ⟨e, h⟩
theorem One.put {l : Lay} {m : Mi} (h : One l m) {t n : Int} (ht : noTote t = false) (hn : m.noNode n = false) (hw : ¬(m.w[t.toNat]?.getD 0 > 0)) (hf : m.taken n = false) (ok : (Mi.mk m.es (m.w.set t.toNat (n + 1)) (m.at_.set n.toNat t) m.ds).Ok) : One l ⟨m.es, m.w.set t.toNat (n + 1), m.at_.set n.toNat t, m.ds⟩ := by
  obtain ⟨t1, t2⟩ := noTote_in ht
  obtain ⟨n1, n2⟩ := noNode_in hn
  obtain ⟨hb, y0, hy0, hy1⟩ := free hn hf
  have hwl := h.ok.wl
  have htl : t.toNat < m.w.length := by omega
  have hnl : n.toNat < m.at_.length := by omega
  rw [List.getElem?_eq_getElem htl] at hw
  simp only [Option.getD_some] at hw
  have hwt : m.w[t.toNat]? = some 0 := by
    have h2 := h.ok.wr _ (List.getElem_mem htl)
    rw [List.getElem?_eq_getElem htl]; congr 1; omega
  have hy00 : y0 = 0 := by
    rcases h.aw _ _ hy0 with k | k
    · exact k
    · omega
  subst hy00
  refine ⟨ok, h.es, by simp only [List.length_set]; exact h.al, fun s k hs hk => ?_, fun k y hk => ?_, fun j x e hx h0 he => ?_, h.ut, h.ub⟩
  · rcases get_set hk with ⟨e1, e2, _⟩ | ⟨e1, e2⟩
    · have : k = n.toNat := by omega
      subst this
      rw [List.getElem?_set_self hnl]; congr 1; omega
    · have h3 := h.wa s k hs e2
      have hne : n.toNat ≠ k := fun e => by subst e; rw [hy0] at h3; simp at h3; omega
      rw [List.getElem?_set_ne hne]; exact h3
  · rcases get_set hk with ⟨e1, e2, _⟩ | ⟨e1, e2⟩
    · subst e1 e2
      exact .inr ⟨t1, t2, by simp only; rw [List.getElem?_set_self htl]; congr 1; omega⟩
    · rcases h.aw k y e2 with h3 | ⟨h3, h4, h5⟩
      · exact .inl h3
      · refine .inr ⟨h3, h4, ?_⟩
        have hne : t.toNat ≠ y.toNat := fun e => by rw [← e, hwt] at h5; simp at h5; omega
        simp only; rw [List.getElem?_set_ne hne]; exact h5
  · obtain ⟨h1, h2, h3, h4⟩ := h.dt j x e hx h0 he
    have hed := h.ok.ed e (List.mem_of_getElem? he)
    have hne : t.toNat ≠ x.tote.toNat := fun e' => by rw [← e', hwt] at h3; simp at h3; omega
    have hne2 : n.toNat ≠ e.b.toNat := fun e' => by
      have := noBusy hb hx he (by omega)
      omega
    refine ⟨h1, h2, ?_, ?_⟩
    · simp only; rw [List.getElem?_set_ne hne]; exact h3
    · simp only; rw [List.getElem?_set_ne hne2]; exact h4
/-- a device's tote isn't what it was -/
theorem One.dev0 {l : Lay} {m : Mi} (h : One l m) {d : Nat} {y : Md} (hy : y.tote = 0 ∨ ∃ x, m.ds[d]? = some x ∧ y.tote = x.tote) (ok : (Mi.mk m.es m.w m.at_ (m.ds.set d y)).Ok) : One l ⟨m.es, m.w, m.at_, m.ds.set d y⟩ := by
  have key : ∀ (j : Nat) (x : Md), (m.ds.set d y)[j]? = some x → x.tote ≠ 0 → ∃ x', m.ds[j]? = some x' ∧ x'.tote = x.tote := fun j x hx h0 => by
    rcases get_set hx with ⟨e1, e2, _⟩ | ⟨e1, e2⟩
    · subst e1 e2
      rcases hy with k | ⟨x', k1, k2⟩
      · exact (h0 k).elim
      · exact ⟨x', k1, k2.symm⟩
    · exact ⟨x, e2, rfl⟩
  refine ⟨ok, h.es, h.al, h.wa, h.aw, fun j x e hx h0 he => ?_, fun i j x z hx hz h0 ht => ?_, fun i j x z e f hx hz h0 h1 he hf hb => ?_⟩
  · obtain ⟨x', k1, k2⟩ := key j x hx h0
    have := h.dt j x' e k1 (by rw [k2]; exact h0) he
    rw [k2] at this; exact this
  · obtain ⟨x', k1, k2⟩ := key i x hx h0
    obtain ⟨z', k3, k4⟩ := key j z hz (by rw [← ht]; exact h0)
    exact h.ut i j x' z' k1 k3 (by rw [k2]; exact h0) (by rw [k2, k4]; exact ht)
  · obtain ⟨x', k1, k2⟩ := key i x hx h0
    obtain ⟨z', k3, k4⟩ := key j z hz h1
    exact h.ub i j x' z' e f k1 k3 (by rw [k2]; exact h0) (by rw [k4]; exact h1) he hf hb
theorem One.send {l : Lay} {m : Mi} (h : One l m) {d t : Int} {x : Md} {e : Ed} {y : Md} (hd : m.noDev d = false) (ht : noTote t = false) (hx : m.ds[d.toNat]? = some x) (he : m.es[(d - 1).toNat]? = some e) (hx0 : ¬x.tote > 0) (hl : m.loc t = e.a) (hh : hasT m.ds t = false) (hf : m.taken e.b = false) (hy : y.tote = t)
    (ok : (Mi.mk m.es m.w m.at_ (m.ds.set d.toNat y)).Ok) : One l ⟨m.es, m.w, m.at_, m.ds.set d.toNat y⟩ := by
  obtain ⟨t1, t2⟩ := noTote_in ht
  obtain ⟨_, d1, _, d3, _⟩ := Mi.dev hd
  have hed := h.ok.ed e (List.mem_of_getElem? he)
  have hn := noNode_out (m := m) (n := e.b) ⟨hed.2.2.1, hed.2.2.2.1⟩
  obtain ⟨hb, y0, hy0, hy1⟩ := free hn hf
  have hy00 : y0 = 0 := by
    rcases h.aw _ _ hy0 with k | k
    · exact k
    · omega
  subst hy00
  have hwl := h.ok.wl
  have htl : t.toNat < m.w.length := by omega
  have hwt : m.w[t.toNat]? = some (e.a + 1) := by
    rw [Mi.loc, if_neg (by rw [ht]; decide), List.getElem?_eq_getElem htl] at hl
    simp only [Option.getD_some] at hl
    rw [List.getElem?_eq_getElem htl]; congr 1; omega
  have hi : (d - 1).toNat = d.toNat - 1 := by omega
  rw [hi] at he
  have hnt : ∀ (j : Nat) (z : Md), m.ds[j]? = some z → z.tote ≠ t := fun j z hz => by
    have := List.any_eq_false.1 hh z (List.mem_of_getElem? hz)
    simpa using this
  have hpos : ∀ (j : Nat) (z : Md) (f : Ed), m.ds[j]? = some z → z.tote ≠ 0 → m.es[j - 1]? = some f → f.b ≠ e.b := fun j z f hz h0 hf => noBusy hb hz hf (by have := h.dt j z f hz h0 hf; omega)
  refine ⟨ok, h.es, h.al, h.wa, h.aw, fun j z f hz h0 hf => ?_, fun i j z z' hz hz' h0 htt => ?_, fun i j z z' f f' hz hz' h0 h1 hf hf' hbb => ?_⟩
  · rcases get_set hz with ⟨e1, e2, _⟩ | ⟨e1, e2⟩
    · subst e1 e2
      simp only at hf
      rw [he] at hf; cases hf
      rw [hy]; exact ⟨t1, t2, hwt, hy0⟩
    · exact h.dt j z f e2 h0 hf
  · rcases get_set hz with ⟨e1, e2, _⟩ | ⟨e1, e2⟩ <;> rcases get_set hz' with ⟨f1, f2, _⟩ | ⟨f1, f2⟩
    · exact e1.symm.trans f1
    · rw [e2, hy] at htt; exact (hnt j z' f2 htt.symm).elim
    · rw [f2, hy] at htt; exact (hnt i z e2 htt).elim
    · exact h.ut i j z z' e2 f2 h0 htt
  · rcases get_set hz with ⟨e1, e2, _⟩ | ⟨e1, e2⟩ <;> rcases get_set hz' with ⟨f1, f2, _⟩ | ⟨f1, f2⟩
    · exact e1.symm.trans f1
    · subst e1; simp only at hf; rw [he] at hf; cases hf
      exact (hpos j z' f' f2 h1 hf' hbb.symm).elim
    · subst f1; simp only at hf'; rw [he] at hf'; cases hf'
      exact (hpos i z f e2 h0 hf hbb).elim
    · exact h.ub i j z z' f f' e2 f2 h0 h1 hf hf' hbb
theorem One.moved {l : Lay} {m : Mi} (h : One l m) {d t : Int} {x : Md} {e : Ed} {y : Md} (hd : m.noDev d = false) (ht : noTote t = false) (hx : m.ds[d.toNat]? = some x) (he : m.es[(d - 1).toNat]? = some e) (hxt : x.tote = t) (hy : y.tote = 0)
    (ok : (Mi.mk m.es (m.w.set t.toNat (e.b + 1)) ((m.at_.set e.a.toNat 0).set e.b.toNat t) (m.ds.set d.toNat y)).Ok) : One l ⟨m.es, m.w.set t.toNat (e.b + 1), (m.at_.set e.a.toNat 0).set e.b.toNat t, m.ds.set d.toNat y⟩ := by
  obtain ⟨t1, t2⟩ := noTote_in ht
  obtain ⟨_, d1, _, d3, _⟩ := Mi.dev hd
  have hed := h.ok.ed e (List.mem_of_getElem? he)
  have hi : (d - 1).toNat = d.toNat - 1 := by omega
  rw [hi] at he
  have h0x : x.tote ≠ 0 := by omega
  obtain ⟨_, _, hwx, hb0⟩ := h.dt _ x e hx h0x he
  rw [hxt] at hwx
  have hwl := h.ok.wl
  have htl : t.toNat < m.w.length := by omega
  have hal : e.a.toNat < m.at_.length := by omega
  have hbl : e.b.toNat < m.at_.length := by omega
  have hat : m.at_[e.a.toNat]? = some t := by
    have := h.wa t.toNat e.a.toNat (by omega) (by rw [hwx]; congr 1; omega)
    rw [this]; congr 1; omega
  have hneab : e.a.toNat ≠ e.b.toNat := by omega
  have oth : ∀ (j : Nat) (z : Md), (m.ds.set d.toNat y)[j]? = some z → z.tote ≠ 0 → d.toNat ≠ j ∧ m.ds[j]? = some z := fun j z hz h0 => by
    rcases get_set hz with ⟨e1, e2, _⟩ | ⟨e1, e2⟩
    · subst e2; exact (h0 hy).elim
    · exact ⟨e1, e2⟩
  refine ⟨ok, h.es, by simp only [List.length_set]; exact h.al, fun s k hs hk => ?_, fun k z hk => ?_, fun j z f hz h0 hf => ?_, fun i j z z' hz hz' h0 htt => ?_, fun i j z z' f f' hz hz' h0 h1 hf hf' hbb => ?_⟩
  · rcases get_set hk with ⟨e1, e2, _⟩ | ⟨e1, e2⟩
    · have : k = e.b.toNat := by omega
      subst this
      rw [List.getElem?_set_self (by rw [List.length_set]; exact hbl)]; congr 1; omega
    · have h3 := h.wa s k hs e2
      have hk1 : e.a.toNat ≠ k := fun e' => by subst e'; rw [hat] at h3; simp at h3; omega
      have hk2 : e.b.toNat ≠ k := fun e' => by subst e'; rw [hb0] at h3; simp at h3; omega
      rw [List.getElem?_set_ne hk2, List.getElem?_set_ne hk1]; exact h3
  · rcases get_set hk with ⟨e1, e2, _⟩ | ⟨e1, e2⟩
    · subst e1 e2
      exact .inr ⟨t1, t2, by simp only; rw [List.getElem?_set_self htl]; congr 1; omega⟩
    · rcases get_set e2 with ⟨f1, f2, _⟩ | ⟨f1, f2⟩
      · exact .inl f2
      · rcases h.aw k z f2 with h3 | ⟨h3, h4, h5⟩
        · exact .inl h3
        · refine .inr ⟨h3, h4, ?_⟩
          have hne : t.toNat ≠ z.toNat := fun e' => by
            rw [← e', hwx] at h5; simp at h5; omega
          simp only; rw [List.getElem?_set_ne hne]; exact h5
  · obtain ⟨q1, q2⟩ := oth j z hz h0
    obtain ⟨h1, h2, h3, h4⟩ := h.dt j z f q2 h0 hf
    have hfd := h.ok.ed f (List.mem_of_getElem? hf)
    have hne : t.toNat ≠ z.tote.toNat := fun e' => q1 (h.ut _ j x z hx q2 h0x (by omega))
    have hne2 : e.b.toNat ≠ f.b.toNat := fun e' => q1 (h.ub _ j x z e f hx q2 h0x h0 he hf (by omega))
    have hne3 : e.a.toNat ≠ f.b.toNat := fun e' => by rw [← e', hat] at h4; simp at h4; omega
    refine ⟨h1, h2, ?_, ?_⟩
    · simp only; rw [List.getElem?_set_ne hne]; exact h3
    · simp only; rw [List.getElem?_set_ne hne2, List.getElem?_set_ne hne3]; exact h4
  · obtain ⟨q1, q2⟩ := oth i z hz h0
    obtain ⟨q3, q4⟩ := oth j z' hz' (by rw [← htt]; exact h0)
    exact h.ut i j z z' q2 q4 h0 htt
  · obtain ⟨q1, q2⟩ := oth i z hz h0
    obtain ⟨q3, q4⟩ := oth j z' hz' h1
    exact h.ub i j z z' f f' q2 q4 h0 h1 hf hf' hbb
/-- whether totes are in -/
def PutOk (m : Mi) (p : List Bool) : Prop := p.length = 31 ∧ ∀ (t : Nat) (v : Int), 1 ≤ t → m.w[t]? = some v → p[t]? = some (decide (v > 0))
theorem One.apply {l : Lay} {m : Mi} (h : One l m) {p : List Bool} (hp : PutOk m p) (n : Nt) : One l (m.apply n).1 ∧ ((m.apply n).2 = 0 → n.k = 1 → 1 ≤ n.a ∧ n.a ≤ 30) ∧ PutOk (m.apply n).1 (if (m.apply n).2 = 0 ∧ n.k = 1 then p.set n.a.toNat true else p) := by
  have ok := Mi.apply_ok h.ok n
  have same : ∀ q : Mi × Int, q.2 ≠ 0 → q.1 = m → One l q.1 ∧ (q.2 = 0 → n.k = 1 → 1 ≤ n.a ∧ n.a ≤ 30) ∧ PutOk q.1 (if q.2 = 0 ∧ n.k = 1 then p.set n.a.toNat true else p) := fun q h1 h2 => by
    rw [h2, if_neg (fun k => h1 k.1)]
    exact ⟨h, fun k => (h1 k).elim, hp⟩
  by_cases k1 : n.k = 1
  · have e : m.apply n = m.put n.a n.b := by simp [Mi.apply, k1]
    rw [e] at ok ⊢
    rcases m.put_cases n.a n.b with q | ⟨h1, h2, h3, h4, q⟩
    · exact same _ q.1 q.2
    · rw [q] at ok ⊢
      have htr := noTote_in h1
      have hnr := noNode_in h2
      refine ⟨h.put h1 h2 h3 h4 ok, fun _ _ => htr, ?_⟩
      rw [if_pos ⟨rfl, k1⟩]
      refine ⟨by rw [List.length_set]; exact hp.1, fun t v t1 hv => ?_⟩
      rcases get_set hv with ⟨e1, e2, _⟩ | ⟨e1, e2⟩
      · subst e1 e2
        rw [List.getElem?_set_self (by rw [hp.1]; omega), decide_eq_true (by omega)]
      · rw [List.getElem?_set_ne e1]; exact hp.2 t v t1 e2
  have hneg : ∀ q : Mi × Int, ¬(q.2 = 0 ∧ n.k = 1) := fun q k => k1 k.2
  have rest : ∀ q : Mi × Int, One l q.1 → (∀ (t : Nat) (v : Int), 1 ≤ t → q.1.w[t]? = some v → ∃ v', m.w[t]? = some v' ∧ decide (v' > 0) = decide (v > 0)) → One l q.1 ∧ (q.2 = 0 → n.k = 1 → 1 ≤ n.a ∧ n.a ≤ 30) ∧ PutOk q.1 (if q.2 = 0 ∧ n.k = 1 then p.set n.a.toNat true else p) := fun q h1 h2 => by
    rw [if_neg (hneg q)]
    refine ⟨h1, fun _ k => (k1 k).elim, hp.1, fun t v t1 hv => ?_⟩
    obtain ⟨v', a1, a2⟩ := h2 t v t1 hv
    rw [← a2]; exact hp.2 t v' t1 a1
  by_cases k4 : n.k = 4
  · have e : m.apply n = m.send n.a n.b n.c := by simp [Mi.apply, k4]
    rw [e] at ok ⊢
    rcases m.send_cases n.a n.b n.c with q | ⟨x, e', h1, h2, _, _, h5, h6, _, h8, h9, h10, h11, q⟩
    · exact same _ q.1 q.2
    · rw [q] at ok ⊢
      exact rest _ (h.send h2 h1 h5 h6 h8 h9 h10 h11 rfl ok) fun t v _ hv => ⟨v, hv, rfl⟩
  by_cases k5 : n.k = 5
  · have e : m.apply n = m.moved n.a n.b := by simp [Mi.apply, k5]
    rw [e] at ok ⊢
    rcases m.moved_cases n.a n.b with q | ⟨x, e', h1, h2, h3, h4, h5, _, q⟩
    · exact same _ q.1 q.2
    · rw [q] at ok ⊢
      refine rest _ (h.moved h2 h1 h3 h4 h5 rfl ok) fun t v t1 hv => ?_
      simp only at hv
      rcases get_set hv with ⟨e1, e2, _⟩ | ⟨e1, e2⟩
      · subst e1 e2
        obtain ⟨_, d1, _⟩ := Mi.dev h2
        have hi : (n.a - 1).toNat = n.a.toNat - 1 := by omega
        have hed := h.ok.ed e' (List.mem_of_getElem? h4)
        rw [hi] at h4
        obtain ⟨_, _, hwx, _⟩ := h.dt _ x e' h3 (by have := noTote_in h1; omega) h4
        rw [h5] at hwx
        exact ⟨_, hwx, by rw [decide_eq_true (by omega), decide_eq_true (by omega)]⟩
      · exact ⟨v, e2, rfl⟩
  by_cases k7 : n.k = 7
  · have e : m.apply n = m.drop n.a := by simp [Mi.apply, k7]
    rw [e] at ok ⊢
    rcases m.drop_cases n.a with q | ⟨x, h1, h2, _, q⟩
    · exact same _ q.1 q.2
    · rw [q] at ok ⊢
      exact rest _ (h.dev0 (.inl rfl) ok) fun t v _ hv => ⟨v, hv, rfl⟩
  by_cases k8 : n.k = 8
  · have e : m.apply n = m.mask n.a (decide (n.b = 1)) := by simp [Mi.apply, k8]
    rw [e] at ok ⊢
    rcases m.mask_cases n.a (decide (n.b = 1)) with q | ⟨x, h1, h2, q⟩
    · exact same _ q.1 q.2
    · rw [q] at ok ⊢
      exact rest _ (h.dev0 (.inr ⟨x, h2, rfl⟩) ok) fun t v _ hv => ⟨v, hv, rfl⟩
  · have e : m.apply n = (m, 23) := by simp [Mi.apply, k1, k4, k5, k7, k8]
    rw [e]; exact same (m, 23) (fun k => by cases k) rfl
end Go.Proofs.Ytjijhkmimjolhaa.Ab
