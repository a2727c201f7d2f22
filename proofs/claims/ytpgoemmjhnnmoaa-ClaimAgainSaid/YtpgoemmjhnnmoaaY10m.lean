/- Chapter 10: ClaimAgain. -/
import Derived.Test.YtpgoemmjhnnmoaaY10i
import Derived.Test.YtpgoemmjhnnmoaaY10l
namespace Go.Proofs.Ytpgoemmjhnnmoaa.Ab
open Go
set_option linter.unusedVariables false
set_option linter.unusedSimpArgs false
variable {T : AT}
theorem heldF_mem {tote : Int} (h0 : 0 < tote) : ∀ (l : List Int) (n : Nat) (x : Int), x ∈ heldF tote n l ↔ ∃ k : Nat, l[k]? = some tote ∧ x = ((n + k : Nat) : Int)
  | [], n, x => by simp [heldF]
  | y :: l, n, x => by
    have ih := heldF_mem h0 l (n + 1) x
    have key : (∃ k : Nat, (y :: l)[k]? = some tote ∧ x = ((n + k : Nat) : Int)) ↔ (y = tote ∧ x = n) ∨ ∃ k : Nat, l[k]? = some tote ∧ x = ((n + 1 + k : Nat) : Int) := by
      constructor
      · rintro ⟨k, h1, h2⟩
        cases k with
        | zero => simp at h1; exact .inl ⟨h1, by simpa using h2⟩
        | succ k => rw [List.getElem?_cons_succ] at h1; exact .inr ⟨k, h1, by omega⟩
      · rintro (⟨h1, h2⟩ | ⟨k, h1, h2⟩)
        · exact ⟨0, by simp [h1], by simpa using h2⟩
        · exact ⟨k + 1, by rw [List.getElem?_cons_succ]; exact h1, by omega⟩
    rw [key]
    simp only [heldF]
    split
    · rename_i hy
      rw [List.mem_cons, ih]
      constructor
      · rintro (h | h)
        · exact .inl ⟨hy.1, h⟩
        · exact .inr h
      · rintro (h | h)
        · exact .inl h.2
        · exact .inr h
    · rename_i hy
      rw [ih]
      constructor
      · exact .inr
      · rintro (h | h)
        · exact (hy ⟨h.1, h0⟩).elim
        · exact h
theorem heldF_nodup {tote : Int} (h0 : 0 < tote) : ∀ (l : List Int) (n : Nat), (heldF tote n l).Nodup
  | [], n => List.nodup_nil
  | y :: l, n => by
    simp only [heldF]
    split
    · refine List.nodup_cons.2 ⟨fun h => ?_, heldF_nodup h0 l (n + 1)⟩
      obtain ⟨k, _, h2⟩ := (heldF_mem h0 l (n + 1) _).1 h
      omega
    · exact heldF_nodup h0 l (n + 1)
/-- what is given back, one node behind the other -/
structure Back (N : Nat) (tote : Int) (l : List Int) (i : Nat) (t : Tab) : Prop extends Sole N tote t where
  have_ : ∀ m : Nat, t.hold[m]? = some tote ↔ ((m : Int) ∈ l.drop i)
theorem back_first {N : Nat} {tote : Int} {t : Tab} (h : Sole N tote t) (h0 : 0 < tote) : Back N tote (t.held tote) 0 t :=
  ⟨h, fun m => by
    rw [List.drop_zero, Tab.held, heldF_mem h0]
    constructor
    · intro hm; exact ⟨m, hm, by omega⟩
    · rintro ⟨k, hk, e⟩
      have : m = k := by omega
      rw [this]; exact hk⟩
theorem back_step {N : Nat} {tote : Int} {l : List Int} {i m : Nat} {t : Tab} (h : Back N tote l i t) (hn : l.Nodup) (hi : l[i]? = some (m : Int)) (h1 : 1 ≤ tote) (h2 : tote ≤ 30) :
    t.release tote m = (⟨t.hold.set m 0, []⟩, [], 0) ∧ Back N tote l (i + 1) ⟨t.hold.set m 0, []⟩ := by
  obtain ⟨hil, he⟩ := List.getElem?_eq_some_iff.1 hi
  have hd : l.drop i = (m : Int) :: l.drop (i + 1) := by rw [← he]; exact List.drop_eq_getElem_cons hil
  have hm : t.hold[m]? = some tote := (h.have_ m).2 (by rw [hd]; exact .head _)
  obtain ⟨a1, a2⟩ := sole_release h.toSole h1 h2 hm
  refine ⟨a1, ⟨a2, fun k => ?_⟩⟩
  have hnd : ((m : Int) :: l.drop (i + 1)).Nodup := by rw [← hd]; exact hn.drop
  have hk := h.have_ k
  rw [hd, List.mem_cons] at hk
  by_cases hkm : k = m
  · subst hkm
    simp only
    rw [List.getElem?_set, if_pos rfl]
    constructor
    · intro h; split at h
      · cases h; omega
      · cases h
    · intro h; exact ((List.nodup_cons.1 hnd).1 h).elim
  · simp only
    rw [List.getElem?_set_ne (fun e => hkm e.symm), hk]
    constructor
    · rintro (h | h)
      · omega
      · exact h
    · exact .inr
theorem back_end {N : Nat} {tote : Int} {l : List Int} {t : Tab} (h : Back N tote l l.length t) (h0 : 0 < tote) : t.held tote = [] := by
  cases hl : t.held tote with
  | nil => rfl
  | cons x r =>
    have : x ∈ heldF tote 0 t.hold := by rw [← Tab.held, hl]; exact .head _
    obtain ⟨k, hk, _⟩ := (heldF_mem h0 _ _ _).1 this
    have := (h.have_ k).1 hk
    rw [List.drop_length] at this
    simp at this
theorem back_seize {N : Nat} {tote other : Int} {l : List Int} {t : Tab} (h : Back N tote l l.length t) (h1 : 1 ≤ other) (h2 : other ≤ 30) (hN : 0 < N) :
    t.seize other 0 = (⟨t.hold.set 0 other, []⟩, 0) ∧ (⟨t.hold.set 0 other, []⟩ : Tab).holder 0 = other := by
  have hq := h.q
  have ho : t.out other [0] = false := out_false h1 h2 (by intro n hn; simp at hn; subst hn; rw [h.len]; omega)
  have hlen := h.len
  have h0l : 0 < t.hold.length := by omega
  have hz : t.hold[0]? = some 0 := by
    rcases h.all _ (List.getElem_mem h0l) with e | e
    · rw [List.getElem?_eq_getElem h0l, e]
    · have := (h.have_ 0).1 (by rw [List.getElem?_eq_getElem h0l, e])
      rw [List.drop_length] at this
      simp at this
  constructor
  · rw [Tab.seize, if_neg (by rw [ho]; simp), if_neg (by simp only [Int.toNat_zero, hz, Option.getD_some]; simp), hq]
    rfl
  · simp only [Tab.holder]
    rw [if_neg (by decide), Int.toNat_zero, List.getElem?_set, if_pos rfl, if_pos h0l]; rfl
end Go.Proofs.Ytpgoemmjhnnmoaa.Ab
