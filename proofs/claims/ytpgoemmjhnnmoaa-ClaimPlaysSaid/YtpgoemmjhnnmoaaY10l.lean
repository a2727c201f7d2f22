/- Chapter 10: plain facts for ClaimAgain. -/
import Derived.Test.YtpgoemmjhnnmoaaY10k
namespace Go.Proofs.Ytpgoemmjhnnmoaa.Ab
open Go
set_option linter.unusedVariables false
set_option linter.unusedSimpArgs false
/-- nobody waits, and nobody but one tote has nodes -/
structure Sole (N : Nat) (tote : Int) (t : Tab) : Prop where
  len : t.hold.length = N
  q : t.q = []
  all : ∀ x ∈ t.hold, x = 0 ∨ x = tote
theorem Sole.ok {N : Nat} {tote : Int} {t : Tab} (h : Sole N tote t) (hN : N ≤ 1000000) : t.Ok := ⟨by rw [h.q]; simp, by rw [h.len]; exact hN⟩
theorem markL_mem {α : Type} (v : α) : ∀ (ns : List Int) (l : List α) (x : α), x ∈ markL l ns v → x ∈ l ∨ x = v
  | [], l, x, h => .inl h
  | n :: ns, l, x, h => by
    rcases markL_mem v ns (l.set n.toNat v) x h with h | h
    · exact List.mem_or_eq_of_mem_set h
    · exact .inr h
theorem markL_has {α : Type} (v : α) : ∀ (ns : List Int) (l : List α) (m : Nat), m < l.length → ((m : Int) ∈ ns ∨ l[m]? = some v) → (markL l ns v)[m]? = some v
  | [], l, m, hm, h => by
    rcases h with h | h
    · simp at h
    · exact h
  | n :: ns, l, m, hm, h => by
    refine markL_has v ns (l.set n.toNat v) m (by simpa using hm) ?_
    by_cases hn : n.toNat = m
    · exact .inr (by rw [List.getElem?_set, if_pos hn, if_pos (by omega)])
    · rcases h with h | h
      · rcases List.mem_cons.1 h with h | h
        · omega
        · exact .inl h
      · exact .inr (by rw [List.getElem?_set_ne hn]; exact h)
theorem sole_put {N : Nat} {tote : Int} {t : Tab} {ns : List Int} (h : Sole N tote t) (h1 : 1 ≤ tote) (h2 : tote ≤ 30) (h3 : inB N ns) (h4 : (0 : Int) ∈ ns) (hN : 0 < N) :
    t.put tote ns = (⟨markL t.hold ns tote, []⟩, true, 0) ∧ Sole N tote ⟨markL t.hold ns tote, []⟩ ∧ (markL t.hold ns tote)[0]? = some tote := by
  obtain ⟨hold, q⟩ := t
  obtain rfl : q = [] := h.q
  have hl : hold.length = N := h.len
  refine ⟨put_now h1 h2 (by simp only; rw [hl]; exact h3) (fun e => by rw [e] at h4; simp at h4) (by simp) (by simp) ?_ (by simp), ⟨(markL_len ..).trans hl, rfl, fun x hx => ?_⟩, markL_has tote ns hold 0 (by omega) (.inl h4)⟩
  · simp only [freeC, List.all_eq_true, marks, List.foldl_nil]
    intro n hn
    obtain ⟨a1, a2⟩ := h3 n hn
    have hlt : n.toNat < hold.length := by omega
    have := h.all hold[n.toNat] (List.getElem_mem hlt)
    simp only [freeN, List.getElem?_replicate, if_pos hlt, List.getElem?_eq_getElem hlt, Option.getD_some]
    rcases this with e | e <;> rw [e] <;> simp
  · rcases markL_mem tote ns hold x hx with h' | h'
    · exact h.all x h'
    · exact .inr h'
theorem sole_seize_first {N : Nat} {tote : Int} (h1 : 1 ≤ tote) (h2 : tote ≤ 30) (hN : 0 < N) : (emp N).seize tote 0 = (⟨(List.replicate N 0).set 0 tote, []⟩, 0) ∧ Sole N tote ⟨(List.replicate N 0).set 0 tote, []⟩ ∧ ((List.replicate N (0 : Int)).set 0 tote)[0]? = some tote := by
  have ho : (emp N).out tote [0] = false := out_false h1 h2 (by intro n hn; simp at hn; subst hn; simp [emp]; omega)
  refine ⟨?_, ⟨by simp, rfl, fun x hx => ?_⟩, by rw [List.getElem?_set, if_pos rfl, if_pos (by simp; omega)]⟩
  · rw [Tab.seize, if_neg (by rw [ho]; simp), if_neg (by simp [emp, List.getElem?_replicate, hN])]
    rfl
  · rcases List.mem_or_eq_of_mem_set hx with h | h
    · exact .inl (List.eq_of_mem_replicate h)
    · exact .inr h
theorem seize_held {N : Nat} {tote other : Int} {t : Tab} (h : Sole N tote t) (h0 : t.hold[0]? = some tote) (h1 : 1 ≤ other) (h2 : other ≤ 30) (h3 : other ≠ tote) (h4 : tote ≠ 0) (hN : 0 < N) : t.seize other 0 = (t, 100) := by
  have ho : t.out other [0] = false := out_false h1 h2 (by intro n hn; simp at hn; subst hn; rw [h.len]; omega)
  rw [Tab.seize, if_neg (by rw [ho]; simp), if_pos (by simp only [Int.toNat_zero, h0, Option.getD_some]; exact ⟨h4, fun e => h3 e.symm⟩)]
/-- a node of a tote that is given back while nobody waits -/
theorem sole_release {N : Nat} {tote : Int} {t : Tab} {m : Nat} (h : Sole N tote t) (h1 : 1 ≤ tote) (h2 : tote ≤ 30) (hm : t.hold[m]? = some tote) : t.release tote m = (⟨t.hold.set m 0, []⟩, [], 0) ∧ Sole N tote ⟨t.hold.set m 0, []⟩ := by
  obtain ⟨hold, q⟩ := t
  obtain rfl : q = [] := h.q
  have hl : hold.length = N := h.len
  have hml := (List.getElem?_eq_some_iff.1 hm).1
  have ho : (⟨hold, []⟩ : Tab).out tote [(m : Int)] = false := out_false h1 h2 (by intro n hn; simp at hn; subst hn; simp only; simp only at hml; omega)
  have hg : Tab.g ⟨hold.set m 0, []⟩ = (⟨hold.set m 0, []⟩, []) := rfl
  refine ⟨?_, ⟨by simp [hl], rfl, fun x hx => ?_⟩⟩
  · rw [Tab.release, if_neg (by rw [ho]; simp), if_neg (by simp only [Int.toNat_natCast]; simp only at hm; rw [hm]; simp)]
    simp only [Int.toNat_natCast, hg]
  · rcases List.mem_or_eq_of_mem_set hx with h' | h'
    · exact h.all x h'
    · exact .inl h'
end Go.Proofs.Ytpgoemmjhnnmoaa.Ab
