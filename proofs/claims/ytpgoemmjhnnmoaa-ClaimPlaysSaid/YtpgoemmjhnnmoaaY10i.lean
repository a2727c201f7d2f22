/- Chapter 10: ClaimApart. -/
import Derived.Test.YtpgoemmjhnnmoaaY10h
namespace Go.Proofs.Ytpgoemmjhnnmoaa.Ab
open Go
set_option linter.unusedVariables false
set_option linter.unusedSimpArgs false
variable {T : AT}
structure TabL10 (T : AT) : Prop extends TabC5 T where
  awake : T i_stillagelaw10_awake = some (.spec (always (.b true)))
theorem u64_nn (x : Int) : 0 ≤ IntKind.u64.wrap x := by
  simp only [IntKind.wrap, IntKind.bits]
  exact Int.emod_nonneg _ (by decide)
/-- a number that is brought below k -/
theorem below (x : Int) (k : Nat) (hk : 0 < k) (hk2 : k ≤ 1000000) : ∃ d : Nat, IntKind.i64.wrap ((IntKind.u64.wrap x).tmod (k : Int)) = (d : Int) ∧ d < k := by
  have h1 := u64_nn x
  rw [Int.tmod_eq_emod_of_nonneg h1]
  have h2 := Int.emod_nonneg (IntKind.u64.wrap x) (show (k : Int) ≠ 0 by omega)
  have h3 := Int.emod_lt_of_pos (IntKind.u64.wrap x) (show (0 : Int) < (k : Int) by omega)
  generalize IntKind.u64.wrap x % (k : Int) = y at h2 h3
  refine ⟨y.toNat, ?_, by omega⟩
  rw [wi _ (by omega) (by omega)]; omega
structure Ap (N i : Nat) (t : Tab) : Prop where
  len : t.hold.length = 2 * N
  zero : holdAt t.hold 0 = 30
  free : ∀ k, N + i ≤ k → k < 2 * N → t.hold[k]? = some 0
  oth : ∀ k, 0 < k → k < 2 * N → t.hold[k]? ≠ some 30
  ql : t.q.length = i
  qs : ∀ c ∈ t.q, 1 ≤ c.t ∧ c.t ≤ i ∧ (0 : Int) ∈ c.ns ∧ (∀ m ∈ c.ns, 0 ≤ m ∧ m < N) ∧ c.ns.length ≤ 2
theorem Ap.ok {N i : Nat} {t : Tab} (h : Ap N i t) (hN : N ≤ 20) : t.Ok := ⟨fun c hc => ⟨fun m hm => by have := (h.qs c hc).2.2.2.1 m hm; have := h.len; omega, by have := (h.qs c hc).2.2.2.2; omega⟩, by have := h.len; omega⟩
theorem Ap.stuck {N i : Nat} {t : Tab} (h : Ap N i t) (hi : i ≤ 10) : ∀ c ∈ t.q, stuck t.hold c := fun c hc => by
  obtain ⟨h1, h2, h3, _⟩ := h.qs c hc
  exact ⟨0, h3, by rw [h.zero]; decide, by rw [h.zero]; omega⟩
theorem ap_first {N : Nat} (h1 : 1 ≤ N) (h2 : N ≤ 20) : (emp (2 * N)).put 30 [0] = (⟨(List.replicate (2 * N) 0).set 0 30, []⟩, true, 0) ∧ Ap N 0 ⟨(List.replicate (2 * N) 0).set 0 30, []⟩ := by
  refine ⟨?_, ⟨by simp, ?_, fun k hk1 hk2 => ?_, fun k hk1 hk2 => ?_, rfl, by simp⟩⟩
  · rw [put_now (by omega) (by omega) (by intro n hn; simp at hn; subst hn; simp [emp]; omega) (by simp) (by simp [emp]) (by simp [emp]) ?_ (by simp [emp])]
    · rfl
    · simp [emp, marks, freeC, freeN, List.getElem?_replicate, show 0 < 2 * N by omega, show 0 < N by omega]
  · simp [holdAt, List.getElem?_set, show 0 < 2 * N by omega, show 0 < N by omega]
  · rw [List.getElem?_set_ne (by omega), List.getElem?_replicate]; simp [hk2]
  · rw [List.getElem?_set_ne (by omega), List.getElem?_replicate]; simp [hk2]
theorem ap_wait {N i : Nat} {t : Tab} (h : Ap N i t) (hi : i < 10) (hN : i + 1 < N) : t.put ((i + 1 : Nat) : Int) [0, ((i + 1 : Nat) : Int)] = (⟨t.hold, t.q ++ [⟨((i + 1 : Nat) : Int), [0, ((i + 1 : Nat) : Int)]⟩]⟩, false, 0) :=
  put_wait (by omega) (by omega) (by intro n hn; have := h.len; simp at hn; rcases hn with rfl | rfl <;> omega) (by simp) (fun c hc => by have := (h.qs c hc).2.1; omega) (h.stuck (by omega))
    ⟨0, by simp, by rw [h.zero]; decide, by rw [h.zero]; simp only; omega⟩
theorem ap_now {N i : Nat} {t : Tab} (h : Ap N i t) (hi : i < 10) (hN : i + 1 < N) (hN2 : N ≤ 20) :
    (⟨t.hold, t.q ++ [⟨((i + 1 : Nat) : Int), [0, ((i + 1 : Nat) : Int)]⟩]⟩ : Tab).put ((i + 11 : Nat) : Int) [((N + i : Nat) : Int)] = (⟨t.hold.set (N + i) ((i + 11 : Nat) : Int), t.q ++ [⟨((i + 1 : Nat) : Int), [0, ((i + 1 : Nat) : Int)]⟩]⟩, true, 0) ∧
    Ap N (i + 1) ⟨t.hold.set (N + i) ((i + 11 : Nat) : Int), t.q ++ [⟨((i + 1 : Nat) : Int), [0, ((i + 1 : Nat) : Int)]⟩]⟩ := by
  have hlen := h.len
  have hz : holdAt (t.hold.set (N + i) ((i + 11 : Nat) : Int)) 0 = 30 := by
    have := h.zero
    simp only [holdAt, Int.toNat_zero] at this ⊢
    rw [List.getElem?_set_ne (by omega)]; exact this
  have hqs : ∀ c ∈ t.q ++ [(⟨((i + 1 : Nat) : Int), [0, ((i + 1 : Nat) : Int)]⟩ : Clm)], 1 ≤ c.t ∧ c.t ≤ ((i + 1 : Nat) : Int) ∧ (0 : Int) ∈ c.ns ∧ (∀ m ∈ c.ns, 0 ≤ m ∧ m < N) ∧ c.ns.length ≤ 2 := fun c hc => by
    rcases List.mem_append.1 hc with hc | hc
    · obtain ⟨a1, a2, a3, a4, a5⟩ := h.qs c hc
      exact ⟨a1, by omega, a3, a4, a5⟩
    · rw [List.mem_singleton.1 hc]
      refine ⟨by simp only; omega, by simp only; omega, by simp, fun m hm => ?_, by simp⟩
      simp at hm
      rcases hm with rfl | rfl <;> omega
  have hAp : Ap N (i + 1) ⟨t.hold.set (N + i) ((i + 11 : Nat) : Int), t.q ++ [⟨((i + 1 : Nat) : Int), [0, ((i + 1 : Nat) : Int)]⟩]⟩ := by
    refine ⟨by simp [hlen], hz, fun k hk1 hk2 => ?_, fun k hk1 hk2 => ?_, by simp [h.ql], hqs⟩
    · simp only
      rw [List.getElem?_set_ne (by omega)]; exact h.free k (by omega) hk2
    · simp only
      rw [List.getElem?_set]
      split
      · split
        · simp only [ne_eq, Option.some.injEq]; omega
        · simp
      · exact h.oth k hk1 hk2
  have hst : ∀ c ∈ t.q ++ [(⟨((i + 1 : Nat) : Int), [0, ((i + 1 : Nat) : Int)]⟩ : Clm)], stuck t.hold c := fun c hc => by
    obtain ⟨a1, a2, a3, _⟩ := hqs c hc
    exact ⟨0, a3, by rw [h.zero]; decide, by rw [h.zero]; omega⟩
  refine ⟨?_, hAp⟩
  have hm : markL t.hold [((N + i : Nat) : Int)] ((i + 11 : Nat) : Int) = t.hold.set (N + i) ((i + 11 : Nat) : Int) := rfl
  have hfr := h.free (N + i) (by omega) (by omega)
  have hmk : (marks (List.replicate t.hold.length false) (t.q ++ [(⟨((i + 1 : Nat) : Int), [0, ((i + 1 : Nat) : Int)]⟩ : Clm)]))[N + i]? = some false := by
    rw [marks_get]
    · rw [List.getElem?_replicate, if_pos (by omega)]
    · intro c hc n hn
      have := (hqs c hc).2.2.2.1 n hn
      omega
  rw [put_now (by omega) (by omega) (by intro n hn; simp at hn; subst hn; simp only; omega) (by simp) (fun c hc => by have := (hqs c hc).2.1; omega) hst ?_ ?_, hm]
  · simp only [freeC, List.all_cons, List.all_nil, freeN, Int.toNat_natCast, hmk, hfr, Option.getD_some]; rfl
  · rw [hm]; exact hAp.stuck (by omega)
theorem ap_held {N i : Nat} {t : Tab} (h : Ap N i t) (h1 : 1 ≤ N) : t.held 30 = [0] := by
  have hlen := h.len
  have hz := h.zero
  have hoth := h.oth
  simp only [Tab.held]
  generalize t.hold = l at hlen hz hoth
  match l, hlen with
  | x :: r, hlen =>
    simp only [holdAt, Int.toNat_zero, List.getElem?_cons_zero, Option.getD_some] at hz
    subst hz
    have : ∀ (r : List Int) (n : Nat), (∀ k : Nat, r[k]? ≠ some (30 : Int)) → heldF 30 n r = [] := fun r => by
      induction r with
      | nil => intro n _; rfl
      | cons y r ih =>
        intro n hk
        have h0 := hk 0
        simp at h0
        simp only [heldF, h0, false_and, if_false]
        exact ih (n + 1) fun k => by have := hk (k + 1); rw [List.getElem?_cons_succ] at this; exact this
    simp only [heldF]
    rw [this r 1 fun k => ?_]
    · rfl
    · by_cases hk : k + 1 < 2 * N
      · have := hoth (k + 1) (by omega) hk
        rw [List.getElem?_cons_succ] at this; exact this
      · rw [List.getElem?_eq_none (show r.length ≤ k by simp at hlen; omega)]; simp
  | [], hlen => simp at hlen; omega
end Go.Proofs.Ytpgoemmjhnnmoaa.Ab
