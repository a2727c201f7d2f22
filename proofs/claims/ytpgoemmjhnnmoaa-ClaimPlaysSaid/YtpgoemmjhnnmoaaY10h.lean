/- Chapter 10: plain facts about what is granted. -/
import Derived.Test.YtpgoemmjhnnmoaaY10g
namespace Go.Proofs.Ytpgoemmjhnnmoaa.Ab
open Go
set_option linter.unusedVariables false
set_option linter.unusedSimpArgs false
def holdAt (hold : List Int) (n : Int) : Int := hold[n.toNat]?.getD 0
/-- a node that another tote holds stands in a claim's way -/
def stuck (hold : List Int) (c : Clm) : Prop := ∃ m ∈ c.ns, holdAt hold m ≠ 0 ∧ holdAt hold m ≠ c.t
theorem stuck_free {hold : List Int} {c : Clm} (h : stuck hold c) (wl : List Bool) : freeC hold wl c = false := by
  obtain ⟨m, hm, h1, h2⟩ := h
  simp only [freeC, List.all_eq_false]
  refine ⟨m, hm, ?_⟩
  simp only [freeN]
  simp only [holdAt] at h1 h2
  simp [h1, h2]
def marks (wl : List Bool) (A : List Clm) : List Bool := A.foldl (fun wl c => markL wl c.ns true) wl
theorem scan_app {hold : List Int} : ∀ (A B : List Clm) (wl : List Bool), (∀ c ∈ A, stuck hold c) → scan hold wl (A ++ B) = (scan hold (marks wl A) B).map (· + A.length)
  | [], B, wl, _ => by simp [marks]
  | c :: A, B, wl, h => by
    rw [List.cons_append, scan, stuck_free (h c (.head _))]
    simp only [Bool.false_eq_true, if_false]
    rw [scan_app A B _ fun c hc => h c (.tail _ hc), Option.map_map]
    simp only [marks, List.foldl_cons, List.length_cons]
    rfl
theorem scan_stuck {hold : List Int} {A : List Clm} {wl : List Bool} (h : ∀ c ∈ A, stuck hold c) : scan hold wl A = none := by
  have := scan_app A [] wl h
  rw [List.append_nil] at this
  rw [this]; rfl
theorem g_stuck {t : Tab} (h : ∀ c ∈ t.q, stuck t.hold c) : t.g = (t, []) := grants_end (scan_stuck h)
theorem markL_get {α : Type} (v : α) : ∀ (ns : List Int) (l : List α) (m : Nat), (∀ n ∈ ns, n.toNat ≠ m) → (markL l ns v)[m]? = l[m]?
  | [], l, m, _ => rfl
  | n :: ns, l, m, h => by
    show (markL (l.set n.toNat v) ns v)[m]? = _
    rw [markL_get v ns _ m fun k hk => h k (.tail _ hk), List.getElem?_set_ne (h n (.head _))]
theorem marks_get : ∀ (A : List Clm) (wl : List Bool) (m : Nat), (∀ c ∈ A, ∀ n ∈ c.ns, n.toNat ≠ m) → (marks wl A)[m]? = wl[m]?
  | [], wl, m, _ => rfl
  | c :: A, wl, m, h => by
    show (marks (markL wl c.ns true) A)[m]? = _
    rw [marks_get A _ m fun c hc => h c (.tail _ hc), markL_get true c.ns wl m (h c (.head _))]
theorem qfind_none {q : List Clm} {tote : Int} (h : ∀ c ∈ q, c.t ≠ tote) : qfind q tote = none := by
  rw [qfind, List.findIdx?_eq_none_iff]
  intro c hc; simpa using h c hc
theorem out_false {t : Tab} {tote : Int} {ns : List Int} (h1 : 1 ≤ tote) (h2 : tote ≤ 30) (h3 : inB t.hold.length ns) : t.out tote ns = false := by
  simp only [Tab.out, Bool.or_eq_false_iff, decide_eq_false_iff_not, List.any_eq_false, Tab.bad, Bool.or_eq_true, decide_eq_true_eq, not_or]
  exact ⟨⟨by omega, by omega⟩, fun n hn => by have := h3 n hn; omega⟩
theorem put_new {t : Tab} {tote : Int} {ns : List Int} (h1 : 1 ≤ tote) (h2 : tote ≤ 30) (h3 : inB t.hold.length ns) (h4 : ns ≠ []) (h5 : ∀ c ∈ t.q, c.t ≠ tote) :
    t.put tote ns = ((Tab.g ⟨t.hold, t.q ++ [⟨tote, ns⟩]⟩).1, decide (0 < (Tab.g ⟨t.hold, t.q ++ [⟨tote, ns⟩]⟩).2.length), 0) := by
  rw [Tab.put, if_neg (by rw [out_false h1 h2 h3]; simp [h4]), qfind_none h5]
/-- a claim that waits behind others that wait -/
theorem put_wait {t : Tab} {tote : Int} {ns : List Int} (h1 : 1 ≤ tote) (h2 : tote ≤ 30) (h3 : inB t.hold.length ns) (h4 : ns ≠ []) (h5 : ∀ c ∈ t.q, c.t ≠ tote) (h6 : ∀ c ∈ t.q, stuck t.hold c) (h7 : stuck t.hold ⟨tote, ns⟩) :
    t.put tote ns = (⟨t.hold, t.q ++ [⟨tote, ns⟩]⟩, false, 0) := by
  have : Tab.g ⟨t.hold, t.q ++ [⟨tote, ns⟩]⟩ = (⟨t.hold, t.q ++ [⟨tote, ns⟩]⟩, []) := g_stuck fun c hc => by
    rcases List.mem_append.1 hc with h | h
    · exact h6 c h
    · rw [List.mem_singleton.1 h]; exact h7
  rw [put_new h1 h2 h3 h4 h5, this]
  rfl
/-- a claim that is granted at once, and no other -/
theorem put_now {t : Tab} {tote : Int} {ns : List Int} (h1 : 1 ≤ tote) (h2 : tote ≤ 30) (h3 : inB t.hold.length ns) (h4 : ns ≠ []) (h5 : ∀ c ∈ t.q, c.t ≠ tote) (h6 : ∀ c ∈ t.q, stuck t.hold c)
    (h7 : freeC t.hold (marks (List.replicate t.hold.length false) t.q) ⟨tote, ns⟩ = true) (h8 : ∀ c ∈ t.q, stuck (markL t.hold ns tote) c) :
    t.put tote ns = (⟨markL t.hold ns tote, t.q⟩, true, 0) := by
  have hs : scan t.hold (List.replicate t.hold.length false) (t.q ++ [⟨tote, ns⟩]) = some t.q.length := by
    rw [scan_app _ _ _ h6, scan, h7]; simp
  have : Tab.g ⟨t.hold, t.q ++ [⟨tote, ns⟩]⟩ = (⟨markL t.hold ns tote, t.q⟩, [tote]) := by
    rw [Tab.g, grants_one (i := t.q.length) (c := ⟨tote, ns⟩) hs (by simp)]
    have he : (t.q ++ [(⟨tote, ns⟩ : Clm)]).eraseIdx t.q.length = t.q := by
      rw [List.eraseIdx_append_of_length_le (Nat.le_refl _)]; simp
    simp only [he, List.nil_append]
    exact grants_end (t := ⟨markL t.hold ns tote, t.q⟩) (scan_stuck h8)
  rw [put_new h1 h2 h3 h4 h5, this]
  rfl
end Go.Proofs.Ytpgoemmjhnnmoaa.Ab
