/- Chapter 10: plain facts for ClaimWhole. -/
import Derived.Test.YtpgoemmjhnnmoaaY10s
import Derived.Test.YtpgoemmjhnnmoaaMS2
namespace Go.Proofs.Ytpgoemmjhnnmoaa.Ab
open Go
set_option linter.unusedVariables false
set_option linter.unusedSimpArgs false
/-- a call of a script -/
structure O10 where
  kind : Int
  tote : Int
  node : Int
  nodes : List Int
def cO (o : O10) : List PV := [.i .i64 o.kind, .i .i64 o.tote, .i .i64 o.node, .fz 1 (o.nodes.map cI)]
/-- claims that wait, or were just granted, as they are written down -/
structure Pre (N i : Nat) (t : Tab) (ws G : List Clm) : Prop where
  len : t.hold.length = N
  st : t.still
  pm : (G ++ t.q).Perm ws
  nd : (ws.map Clm.t).Nodup
  ok : ∀ c ∈ ws, inB N c.ns ∧ c.ns ≠ [] ∧ c.ns.length ≤ 5 ∧ 1 ≤ c.t ∧ c.t ≤ 30
  few : ws.length ≤ i
  held : ∀ c ∈ G, ∀ n ∈ c.ns, t.hold[n.toNat]? = some c.t
theorem Pre.mem {N i : Nat} {t : Tab} {ws G : List Clm} (h : Pre N i t ws G) {c : Clm} (hc : c ∈ G ∨ c ∈ t.q) : c ∈ ws := h.pm.subset (List.mem_append.2 hc)
theorem Pre.qlen {N i : Nat} {t : Tab} {ws G : List Clm} (h : Pre N i t ws G) : t.q.length ≤ i ∧ G.length ≤ i := by
  have := h.pm.length_eq
  have := h.few
  simp only [List.length_append] at *
  omega
theorem Pre.tok {N i : Nat} {t : Tab} {ws G : List Clm} (h : Pre N i t ws G) (hN : N ≤ 40) : t.Ok :=
  ⟨fun c hc => by rw [h.len]; have := h.ok c (h.mem (.inr hc)); exact ⟨this.1, by omega⟩, by rw [h.len]; omega⟩
theorem Pre.more {N i : Nat} {t : Tab} {ws G : List Clm} (h : Pre N i t ws G) : Pre N (i + 1) t ws G := ⟨h.len, h.st, h.pm, h.nd, h.ok, by have := h.few; omega, h.held⟩
theorem perm_erase {ws X : List Clm} {c : Clm} {a : Nat} (ha : ws[a]? = some c) (hp : (c :: X).Perm ws) : X.Perm (ws.eraseIdx a) := by
  obtain ⟨h1, h2⟩ := List.getElem?_eq_some_iff.1 ha
  have := erase_perm ws a h1
  rw [h2] at this
  exact (hp.trans this.symm).cons_inv
theorem nodup_erase {ws : List Clm} (a : Nat) (h : (ws.map Clm.t).Nodup) : ((ws.eraseIdx a).map Clm.t).Nodup := h.sublist ((List.eraseIdx_sublist ws a).map Clm.t)
/-- one that was granted is struck out -/
theorem Pre.next {N i : Nat} {t : Tab} {ws G : List Clm} {c : Clm} (h : Pre N i t ws (c :: G)) : ∃ a, findX Clm.t c.t ws 0 = some (a, c) ∧ Pre N i t (ws.eraseIdx a) G := by
  have hm := h.mem (.inl (.head G))
  obtain ⟨a, h1, h2⟩ := findX_of h.nd hm
  have hlen := List.length_eraseIdx_le ws a
  exact ⟨a, h1, h.len, h.st, perm_erase h2 h.pm, nodup_erase a h.nd, fun d hd => h.ok d (List.mem_of_mem_eraseIdx hd), by have := h.few; omega, fun d hd => h.held d (.tail _ hd)⟩
/-- what waits is held by another, or wanted ahead -/
def wantB (t : Tab) (k : Nat) (g w : Int) : Bool := (!decide (t.holder w = 0) && !decide (t.holder w = g)) || (t.q.take k).any fun c => c.ns.any fun x => decide (x = w)
theorem Pre.waits {N i : Nat} {t : Tab} {ws : List Clm} (h : Pre N i t ws []) {k : Nat} {c : Clm} (hc : t.q[k]? = some c) : c.ns.any (wantB t k c.t) = true := by
  have hcm := h.ok c (h.mem (.inr (List.mem_of_getElem? hc)))
  obtain ⟨n, hn, h1⟩ := not_free (scan_none.1 h.st k c hc)
  obtain ⟨b1, b2⟩ := hcm.1 n hn
  refine List.any_eq_true.2 ⟨n, hn, ?_⟩
  rcases h1 with h1 | ⟨h1, h2⟩
  · simp only [wantB, Bool.or_eq_true]
    right
    by_cases hex : ∃ d ∈ t.q.take k, n ∈ d.ns
    · obtain ⟨d, hd, hnd⟩ := hex
      exact List.any_eq_true.2 ⟨d, hd, List.any_eq_true.2 ⟨n, hnd, by simp⟩⟩
    · have := marks_get (t.q.take k) (List.replicate t.hold.length false) n.toNat (fun d hd m hm e => hex ⟨d, hd, by
        have hb := (h.ok d (h.mem (.inr (List.mem_of_mem_take hd)))).1 m hm
        rwa [show n = m by omega]⟩)
      rw [this, List.getElem?_replicate, if_pos (by rw [h.len]; omega)] at h1
      simp at h1
  · have hho : t.holder n = holdAt t.hold n := by rw [Tab.holder, if_neg (by omega)]; rfl
    simp only [wantB, hho]
    simp [h1, h2]
/-- a node is let go, or a claim: others are granted -/
theorem Pre.gf {N i : Nat} {t : Tab} {ws : List Clm} {hold : List Int} {q : List Clm} (hl : hold.length = N) (hp : q.Perm ws) (nd : (ws.map Clm.t).Nodup) (ok : ∀ c ∈ ws, inB N c.ns ∧ c.ns ≠ [] ∧ c.ns.length ≤ 5 ∧ 1 ≤ c.t ∧ c.t ≤ 30) (few : ws.length ≤ i) :
    ∃ G, (Tab.g ⟨hold, q⟩).2 = G.map Clm.t ∧ Pre N i (Tab.g ⟨hold, q⟩).1 ws G := by
  obtain ⟨G, h1, h2⟩ := g_gf (t := ⟨hold, q⟩) (fun c hc => by simp only [hl]; exact (ok c (hp.subset hc)).1)
  refine ⟨G, h1, h2.len.trans hl, h2.st, h2.perm.trans hp, nd, ok, few, fun c hc n hn => ?_⟩
  have hcw := hp.subset (h2.perm.subset (List.mem_append_left _ hc))
  exact h2.held c hc (by have := (ok c hcw).2.2.2; omega) n hn
theorem Pre.claim {N i : Nat} {t : Tab} {ws : List Clm} (h : Pre N i t ws []) {tote : Int} {ns : List Int} (h1 : 1 ≤ tote) (h2 : tote ≤ 30) (hb : inB N ns) (hl : ns.length ≤ 5) :
    ∃ t' yes er, t.put tote ns = (t', yes, er) ∧
      ((yes = false ∧ er ≠ 0 ∧ t' = t) ∨
       (er = 0 ∧ findX Clm.t tote ws 0 = none ∧ ((yes = false ∧ Pre N (i + 1) t' (ws ++ [⟨tote, ns⟩]) []) ∨ (yes = true ∧ Pre N (i + 1) t' (ws ++ [⟨tote, ns⟩]) [⟨tote, ns⟩])))) := by
  by_cases h0 : ns = []
  · exact ⟨t, false, 1, by rw [Tab.put, if_pos (.inr h0)], .inl ⟨rfl, by decide, rfl⟩⟩
  have hbl : inB t.hold.length ns := by rw [h.len]; exact hb
  have hpq : t.q.Perm ws := by simpa using h.pm
  by_cases hno : ∀ c ∈ t.q, c.t ≠ tote
  · have hnw : ∀ c ∈ ws, c.t ≠ tote := fun c hc => hno c (hpq.symm.subset hc)
    have hfx : findX Clm.t tote ws 0 = none := findX_none.2 hnw
    have hnd' : ((ws ++ [(⟨tote, ns⟩ : Clm)]).map Clm.t).Nodup := by
      simp only [List.map_append, List.map_cons, List.map_nil, List.nodup_append]
      refine ⟨h.nd, by simp, fun a ha b hb => ?_⟩
      obtain ⟨c, hc, rfl⟩ := List.mem_map.1 ha
      rw [List.mem_singleton.1 hb]; exact hnw c hc
    have hok' : ∀ c ∈ ws ++ [(⟨tote, ns⟩ : Clm)], inB N c.ns ∧ c.ns ≠ [] ∧ c.ns.length ≤ 5 ∧ 1 ≤ c.t ∧ c.t ≤ 30 := fun c hc => by
      rcases List.mem_append.1 hc with hc | hc
      · exact h.ok c hc
      · rw [List.mem_singleton.1 hc]; exact ⟨hb, h0, hl, h1, h2⟩
    have hfew : (ws ++ [(⟨tote, ns⟩ : Clm)]).length ≤ i + 1 := by have := h.few; simp; omega
    rw [put_new h1 h2 hbl h0 hno]
    rcases g_snoc (c := ⟨tote, ns⟩) h.st hbl with ⟨e, hs⟩ | ⟨e, hs⟩
    · rw [e]
      exact ⟨_, _, _, rfl, .inr ⟨rfl, hfx, .inl ⟨rfl, h.len, hs, by simpa using hpq.append_right _, hnd', hok', hfew, by simp⟩⟩⟩
    · rw [e]
      refine ⟨_, _, _, rfl, .inr ⟨rfl, hfx, .inr ⟨rfl, by simp only [markL_len]; exact h.len, hs, ?_, hnd', hok', hfew, fun c hc n hn => ?_⟩⟩⟩
      · exact (List.perm_append_comm).trans (hpq.append_right _)
      · rw [List.mem_singleton.1 hc] at hn ⊢
        simp only at hn ⊢
        obtain ⟨b1, b2⟩ := hbl n hn
        exact markL_has tote ns t.hold n.toNat (by omega) (.inl (by rwa [Int.toNat_of_nonneg b1]))
  · have ho := out_false (t := t) h1 h2 hbl
    have hf : (qfind t.q tote).isSome = true := by
      simp only [qfind, List.findIdx?_isSome, List.any_eq_true, decide_eq_true_eq]
      obtain ⟨c, hc⟩ := Classical.not_forall.1 hno
      obtain ⟨hc, hct⟩ := Classical.not_imp.1 hc
      exact ⟨c, hc, Classical.not_not.1 hct⟩
    obtain ⟨j, hj⟩ := Option.isSome_iff_exists.1 hf
    exact ⟨t, false, 2, by rw [Tab.put, if_neg (by rw [ho]; simp [h0]), hj], .inl ⟨rfl, by decide, rfl⟩⟩
theorem Pre.release {N i : Nat} {t : Tab} {ws : List Clm} (h : Pre N i t ws []) {tote node : Int} (h1 : 1 ≤ tote) (h2 : tote ≤ 30) (hb : 0 ≤ node ∧ node < N) :
    ∃ t' l er G, t.release tote node = (t', l, er) ∧ l = G.map Clm.t ∧ Pre N i t' ws G := by
  have ho : t.out tote [node] = false := out_false h1 h2 (by intro n hn; simp at hn; subst hn; rw [h.len]; exact hb)
  rw [Tab.release, if_neg (by rw [ho]; simp)]
  split
  · exact ⟨_, _, _, [], rfl, rfl, h⟩
  · obtain ⟨G, g1, g2⟩ := Pre.gf (t := t) (i := i) (hold := t.hold.set node.toNat 0) (q := t.q) (ws := ws) (by simp [h.len]) (by simpa using h.pm) h.nd h.ok h.few
    exact ⟨_, _, _, G, rfl, g1, g2⟩
theorem qfind_some {q : List Clm} {tote : Int} {j : Nat} (h : qfind q tote = some j) : ∃ c, q[j]? = some c ∧ c.t = tote := by
  rw [qfind, List.findIdx?_eq_some_iff_getElem] at h
  obtain ⟨hj, h1, _⟩ := h
  exact ⟨q[j], List.getElem?_eq_getElem hj, by simpa using h1⟩
theorem Pre.drop {N i : Nat} {t : Tab} {ws : List Clm} (h : Pre N i t ws []) {tote : Int} (h1 : 1 ≤ tote) (h2 : tote ≤ 30) :
    ∃ t' l er, t.drop tote = (t', l, er) ∧ ((er ≠ 0 ∧ l = [] ∧ t' = t) ∨ (er = 0 ∧ ∃ a c G, findX Clm.t tote ws 0 = some (a, c) ∧ l = G.map Clm.t ∧ Pre N i t' (ws.eraseIdx a) G)) := by
  have ho : t.out tote [] = false := out_false h1 h2 (by intro n hn; cases hn)
  have hpq : t.q.Perm ws := by simpa using h.pm
  rw [Tab.drop, if_neg (by rw [ho]; simp)]
  split
  · exact ⟨_, _, _, rfl, .inl ⟨by decide, rfl, rfl⟩⟩
  · rename_i j hj
    obtain ⟨c, hc, rfl⟩ := qfind_some hj
    obtain ⟨hjl, hje⟩ := List.getElem?_eq_some_iff.1 hc
    obtain ⟨a, ha, haw⟩ := findX_of h.nd (hpq.subset (List.mem_of_getElem? hc))
    have hpe : (t.q.eraseIdx j).Perm (ws.eraseIdx a) := perm_erase haw (by
      have := erase_perm t.q j hjl
      rw [hje] at this
      exact this.trans hpq)
    have hlen := List.length_eraseIdx_le ws a
    obtain ⟨G, g1, g2⟩ := Pre.gf (t := t) (i := i) (hold := t.hold) (q := t.q.eraseIdx j) (ws := ws.eraseIdx a) h.len hpe (nodup_erase a h.nd) (fun d hd => h.ok d (List.mem_of_mem_eraseIdx hd)) (by have := h.few; omega)
    exact ⟨_, _, _, rfl, .inr ⟨rfl, a, c, G, ha, g1, g2⟩⟩
end Go.Proofs.Ytpgoemmjhnnmoaa.Ab
