/- Chapter 10: what grants does, plainly. -/
import Derived.Test.YtpgoemmjhnnmoaaY10l
namespace Go.Proofs.Ytpgoemmjhnnmoaa.Ab
open Go
set_option linter.unusedVariables false
set_option linter.unusedSimpArgs false
/-- nothing more may be granted -/
def Tab.still (t : Tab) : Prop := scan t.hold (List.replicate t.hold.length false) t.q = none
theorem marks_cons (wl : List Bool) (c : Clm) (A : List Clm) : marks wl (c :: A) = marks (markL wl c.ns true) A := rfl
theorem scan_some {hold : List Int} : ∀ {q : List Clm} {wl : List Bool} {i : Nat}, scan hold wl q = some i → ∃ c, q[i]? = some c ∧ freeC hold (marks wl (q.take i)) c = true
  | [], wl, i, h => by simp [scan] at h
  | c :: q, wl, i, h => by
    rw [scan] at h
    split at h
    · rename_i hf; cases h; exact ⟨c, rfl, hf⟩
    · obtain ⟨j, hj, rfl⟩ := Option.map_eq_some_iff.1 h
      obtain ⟨d, h1, h2⟩ := scan_some hj
      exact ⟨d, by simpa using h1, by rw [List.take_succ_cons, marks_cons]; exact h2⟩
theorem scan_none {hold : List Int} : ∀ {q : List Clm} {wl : List Bool}, scan hold wl q = none ↔ ∀ (i : Nat) c, q[i]? = some c → freeC hold (marks wl (q.take i)) c = false
  | [], wl => by simp [scan]
  | c :: q, wl => by
    rw [scan]
    constructor
    · intro h i d hi
      split at h
      · cases h
      · rename_i hf
        cases i with
        | zero => simp at hi; subst hi; simpa [marks] using hf
        | succ i =>
          rw [List.take_succ_cons, marks_cons]
          exact scan_none.1 (by simpa using h) i d (by simpa using hi)
    · intro h
      have h0 := h 0 c rfl
      simp only [List.take_zero, marks, List.foldl_nil] at h0
      rw [h0]
      simp only [Bool.false_eq_true, if_false, Option.map_eq_none_iff]
      exact scan_none.2 fun i d hi => by
        have := h (i + 1) d (by simpa using hi)
        rwa [List.take_succ_cons, marks_cons] at this
theorem scan_app_none {hold : List Int} : ∀ (A B : List Clm) (wl : List Bool), scan hold wl A = none → scan hold wl (A ++ B) = (scan hold (marks wl A) B).map (· + A.length)
  | [], B, wl, _ => by simp [marks]
  | c :: A, B, wl, h => by
    rw [scan] at h
    split at h
    · cases h
    · rename_i hf
      rw [List.cons_append, scan, if_neg hf, scan_app_none A B _ (by simpa using h), Option.map_map, marks_cons]
      simp only [List.length_cons]
      rfl
theorem marks_len (A : List Clm) : ∀ wl : List Bool, (marks wl A).length = wl.length := by
  induction A with
  | nil => intro wl; rfl
  | cons c A ih => intro wl; rw [marks_cons, ih, markL_len]
/-- free: each node is nobody's, or one's own; and not wanted ahead -/
theorem free_node {hold : List Int} {wl : List Bool} {c : Clm} (h : freeC hold wl c = true) {n : Int} (hn : n ∈ c.ns) : wl[n.toNat]?.getD true = false ∧ (holdAt hold n = 0 ∨ holdAt hold n = c.t) := by
  have := List.all_eq_true.1 h n hn
  simpa [freeN, holdAt] using this
theorem not_free {hold : List Int} {wl : List Bool} {c : Clm} (h : freeC hold wl c = false) : ∃ n ∈ c.ns, wl[n.toNat]?.getD true = true ∨ (holdAt hold n ≠ 0 ∧ holdAt hold n ≠ c.t) := by
  obtain ⟨n, hn, h1⟩ := List.all_eq_false.1 h
  refine ⟨n, hn, ?_⟩
  simp only [freeN, Bool.and_eq_true, Bool.not_eq_true', Bool.or_eq_true, decide_eq_true_eq, not_and, not_or] at h1
  by_cases hw : wl[n.toNat]?.getD true = true
  · exact .inl hw
  · exact .inr (h1 (by simpa using hw))
/-- who holds a node, behind a grant -/
theorem markL_get2 {α : Type} (v : α) (ns : List Int) (l : List α) (m : Nat) (hm : m < l.length) (hb : ∀ n ∈ ns, 0 ≤ n) : ((m : Int) ∈ ns ∧ (markL l ns v)[m]? = some v) ∨ ((m : Int) ∉ ns ∧ (markL l ns v)[m]? = l[m]?) := by
  by_cases h : (m : Int) ∈ ns
  · exact .inl ⟨h, markL_has v ns l m hm (.inl h)⟩
  · refine .inr ⟨h, markL_get v ns l m fun n hn e => h ?_⟩
    have := hb n hn
    rwa [show (m : Int) = n by omega]
theorem erase_perm {α : Type} : ∀ (l : List α) (i : Nat) (h : i < l.length), (l[i] :: l.eraseIdx i).Perm l
  | a :: l, 0, _ => .refl _
  | a :: l, i + 1, h => by
    have := erase_perm l i (by simpa using h)
    simp only [List.getElem_cons_succ, List.eraseIdx_cons_succ]
    exact (List.Perm.swap ..).trans (this.cons a)
structure GF (t t' : Tab) (G : List Clm) : Prop where
  st : t'.still
  len : t'.hold.length = t.hold.length
  perm : (G ++ t'.q).Perm t.q
  nil : G = [] → t' = t
  keep : ∀ (n : Nat) (y : Int), t.hold[n]? = some y → y ≠ 0 → t'.hold[n]? = some y
  src : ∀ (n : Nat) (y : Int), t'.hold[n]? = some y → t.hold[n]? = some y ∨ ∃ c ∈ G, y = c.t ∧ (n : Int) ∈ c.ns
  held : ∀ c ∈ G, c.t ≠ 0 → ∀ n ∈ c.ns, t'.hold[n.toNat]? = some c.t
theorem grants_gf : ∀ (f : Nat) (t : Tab) (out : List Int), t.q.length ≤ f → (∀ c ∈ t.q, inB t.hold.length c.ns) → ∃ G, (grants f t out).2 = out ++ G.map Clm.t ∧ GF t (grants f t out).1 G
  | 0, t, out, hf, hb => by
    have hq : t.q = [] := List.eq_nil_of_length_eq_zero (by omega)
    exact ⟨[], by simp [grants], ⟨by simp [grants, Tab.still, hq, scan], rfl, by simp [grants], fun _ => rfl, fun n y h _ => h, fun n y h => .inl h, by simp⟩⟩
  | f + 1, t, out, hf, hb => by
    rw [grants]
    split
    · rename_i hs
      exact ⟨[], by simp, ⟨hs, rfl, by simp, fun _ => rfl, fun n y h _ => h, fun n y h => .inl h, by simp⟩⟩
    · rename_i i hs
      obtain ⟨c, hc, hfree⟩ := scan_some hs
      rw [hc]
      simp only
      have hi := (List.getElem?_eq_some_iff.1 hc).1
      have hcm := List.mem_of_getElem? hc
      have hin := hb c hcm
      have hmem : ∀ d ∈ t.q.eraseIdx i, d ∈ t.q := fun d hd => List.mem_of_mem_eraseIdx hd
      obtain ⟨G, h1, h2⟩ := grants_gf f ⟨markL t.hold c.ns c.t, t.q.eraseIdx i⟩ (out ++ [c.t]) (by simp only; rw [List.length_eraseIdx_of_lt hi]; omega) (fun d hd => by simp only [markL_len]; exact hb d (hmem d hd))
      have hp : (c :: t.q.eraseIdx i).Perm t.q := by
        have he : t.q[i] = c := (List.getElem?_eq_some_iff.1 hc).2
        rw [← he]
        exact erase_perm t.q i hi
      have hkeep : ∀ (n : Nat) (y : Int), t.hold[n]? = some y → y ≠ 0 → (markL t.hold c.ns c.t)[n]? = some y := fun n y hy h0 => by
        have hl := (List.getElem?_eq_some_iff.1 hy).1
        rcases markL_get2 c.t c.ns t.hold n hl (fun m hm => (hin m hm).1) with ⟨a1, a2⟩ | ⟨a1, a2⟩
        · have := (free_node hfree a1).2
          simp only [holdAt, Int.toNat_natCast, hy, Option.getD_some] at this
          rw [a2]
          rcases this with h | h
          · exact (h0 h).elim
          · rw [h]
        · rw [a2]; exact hy
      refine ⟨c :: G, by rw [h1]; simp, ⟨h2.st, h2.len.trans (markL_len ..), ?_, fun h => (List.cons_ne_nil _ _ h).elim, fun n y hy h0 => h2.keep n y (hkeep n y hy h0) h0, fun n y hy => ?_, fun d hd h0 n hn => ?_⟩⟩
      · exact ((h2.perm.cons c)).trans hp
      · rcases h2.src n y hy with h | ⟨d, hd, e1, e2⟩
        · have hl := (List.getElem?_eq_some_iff.1 h).1
          simp only [markL_len] at hl
          rcases markL_get2 c.t c.ns t.hold n hl (fun m hm => (hin m hm).1) with ⟨a1, a2⟩ | ⟨a1, a2⟩
          · simp only [a2, Option.some.injEq] at h
            exact .inr ⟨c, .head _, h.symm, a1⟩
          · simp only [a2] at h; exact .inl h
        · exact .inr ⟨d, .tail _ hd, e1, e2⟩
      · rcases List.mem_cons.1 hd with rfl | hd
        · obtain ⟨b1, b2⟩ := hin n hn
          refine h2.keep n.toNat d.t ?_ h0
          exact markL_has d.t d.ns t.hold n.toNat (by omega) (.inl (by rwa [Int.toNat_of_nonneg b1]))
        · exact h2.held d hd h0 n hn
theorem g_gf {t : Tab} (hb : ∀ c ∈ t.q, inB t.hold.length c.ns) : ∃ G, t.g.2 = G.map Clm.t ∧ GF t t.g.1 G := by
  obtain ⟨G, h1, h2⟩ := grants_gf t.q.length t [] (Nat.le_refl _) hb
  exact ⟨G, by rw [Tab.g, h1, List.nil_append], h2⟩
/-- a claim behind those that can't be granted: it is granted, alone, or waits -/
theorem g_snoc {t : Tab} {c : Clm} (hs : t.still) (hb : inB t.hold.length c.ns) :
    (Tab.g ⟨t.hold, t.q ++ [c]⟩ = (⟨t.hold, t.q ++ [c]⟩, []) ∧ Tab.still ⟨t.hold, t.q ++ [c]⟩) ∨ (Tab.g ⟨t.hold, t.q ++ [c]⟩ = (⟨markL t.hold c.ns c.t, t.q⟩, [c.t]) ∧ Tab.still ⟨markL t.hold c.ns c.t, t.q⟩) := by
  have hsa := scan_app_none t.q [c] _ hs
  cases hf : freeC t.hold (marks (List.replicate t.hold.length false) t.q) c with
  | false =>
    have : Tab.still ⟨t.hold, t.q ++ [c]⟩ := by
      simp only [Tab.still]; rw [hsa]; simp [scan, hf]
    exact .inl ⟨grants_end this, this⟩
  | true =>
    right
    have hsc : scan t.hold (List.replicate t.hold.length false) (t.q ++ [c]) = some t.q.length := by rw [hsa]; simp [scan, hf]
    have he : (t.q ++ [c]).eraseIdx t.q.length = t.q := by rw [List.eraseIdx_append_of_length_le (Nat.le_refl _)]; simp
    have hst : Tab.still ⟨markL t.hold c.ns c.t, t.q⟩ := by
      simp only [Tab.still, markL_len]
      rw [scan_none]
      intro i d hi
      obtain ⟨n, hn, h⟩ := not_free (scan_none.1 hs i d hi)
      apply List.all_eq_false.2
      refine ⟨n, hn, ?_⟩
      rcases h with h | ⟨h1, h2⟩
      · simp [freeN, h]
      · have hlt : n.toNat < t.hold.length := by
          by_cases hl : n.toNat < t.hold.length
          · exact hl
          · simp only [holdAt] at h1; rw [List.getElem?_eq_none (by omega)] at h1; exact (h1 rfl).elim
        have hy := List.getElem?_eq_getElem hlt
        generalize t.hold[n.toNat] = y at hy
        simp only [holdAt, hy, Option.getD_some] at h1 h2
        have hk : (markL t.hold c.ns c.t)[n.toNat]? = some y := by
          rcases markL_get2 c.t c.ns t.hold n.toNat hlt (fun m hm => (hb m hm).1) with ⟨a1, a2⟩ | ⟨a1, a2⟩
          · have := (free_node hf a1).2
            simp only [holdAt, Int.toNat_natCast, hy, Option.getD_some] at this
            rw [a2]
            rcases this with h | h
            · exact (h1 h).elim
            · rw [h]
          · rw [a2]; exact hy
        simp [freeN, hk, h1, h2]
    refine ⟨?_, hst⟩
    rw [Tab.g, grants_one (i := t.q.length) (c := c) hsc (by simp)]
    simp only [he, List.nil_append]
    exact grants_end (t := ⟨markL t.hold c.ns c.t, t.q⟩) hst
end Go.Proofs.Ytpgoemmjhnnmoaa.Ab
