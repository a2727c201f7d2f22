/- Chapter 10: plain facts for ClaimRow. -/
import Derived.Test.YtpgoemmjhnnmoaaY10h
namespace Go.Proofs.Ytpgoemmjhnnmoaa.Ab
open Go
set_option linter.unusedVariables false
set_option linter.unusedSimpArgs false
def oneC (n : Nat) (o : Int) : Clm := ⟨o, [(n : Int)]⟩
/-- the first has the node, the others wait -/
def rowT (n : Nat) (l : List Int) : Tab := ⟨(List.replicate 5 0).set n (l.headD 0), l.tail.map (oneC n)⟩
structure Row (n : Nat) (l : List Int) : Prop where
  n5 : n < 5
  nd : l.Nodup
  rg : ∀ x ∈ l, 1 ≤ x ∧ x ≤ 30
theorem row_len (n : Nat) (l : List Int) : (rowT n l).hold.length = 5 := by simp [rowT]
theorem row_hold {n : Nat} {l : List Int} (h : n < 5) : (rowT n l).hold[n]? = some (l.headD 0) := by
  simp only [rowT]
  rw [List.getElem?_set, if_pos rfl, if_pos (by simpa using h)]
theorem row_ok (n : Nat) (l : List Int) (h : n < 5) : (rowT n l).Ok := ⟨fun c hc => by
  simp only [rowT, List.mem_map] at hc
  obtain ⟨o, _, rfl⟩ := hc
  refine ⟨fun m hm => ?_, by simp [oneC]⟩
  simp [oneC] at hm
  rw [row_len]; omega, by rw [row_len]; omega⟩
theorem one_stuck {hold : List Int} {n : Nat} {y o : Int} (h : hold[n]? = some y) (h1 : y ≠ 0) (h2 : y ≠ o) : stuck hold (oneC n o) := ⟨n, by simp [oneC], by simp [holdAt, h, h1], by simp [holdAt, h, oneC, h2]⟩
theorem row_stuck {n : Nat} {l : List Int} (h : Row n l) : ∀ c ∈ (rowT n l).q, stuck (rowT n l).hold c := fun c hc => by
  match l, h, hc with
  | [], h, hc => simp [rowT] at hc
  | x :: l, h, hc =>
    simp only [rowT, List.tail_cons, List.mem_map] at hc
    obtain ⟨o, ho, rfl⟩ := hc
    have hx := h.rg x (.head _)
    refine one_stuck (row_hold h.n5) (by simp only [List.headD_cons]; omega) ?_
    simp only [List.headD_cons]
    intro e; subst e
    exact (List.nodup_cons.1 h.nd).1 ho
theorem in5 {n : Nat} (h : n < 5) (l : List Int) : inB (rowT n l).hold.length [(n : Int)] := by intro m hm; simp at hm; subst hm; rw [row_len]; omega
theorem row_first {n : Nat} {x : Int} (h : n < 5) (h1 : 1 ≤ x) (h2 : x ≤ 30) : (rowT n []).put x [(n : Int)] = (rowT n [x], true, 0) := by
  rw [put_now h1 h2 (in5 h []) (by simp) (by simp [rowT]) (by simp [rowT]) ?_ (by simp [rowT])]
  · simp [rowT, markL]
  · simp [freeC, freeN, rowT, marks, List.getElem?_replicate, List.getElem?_set, h]
    rcases (by omega : n = 0 ∨ n = 1 ∨ n = 2 ∨ n = 3 ∨ n = 4) with rfl | rfl | rfl | rfl | rfl <;> rfl
theorem row_new {n : Nat} {l : List Int} {x : Int} (h : Row n l) (hl : l ≠ []) (h1 : 1 ≤ x) (h2 : x ≤ 30) (hx : x ∉ l) : (rowT n l).put x [(n : Int)] = (rowT n (l ++ [x]), false, 0) := by
  obtain ⟨y, r, rfl⟩ := List.exists_cons_of_ne_nil hl
  have hy := h.rg y (.head _)
  rw [put_wait h1 h2 (in5 h.n5 _) (by simp) ?_ (row_stuck h) (one_stuck (row_hold h.n5) (by simp only [List.headD_cons]; omega) (by simp only [List.headD_cons]; intro e; subst e; exact hx (.head _)))]
  · simp [rowT, oneC]
  · intro c hc
    simp only [rowT, List.tail_cons, List.mem_map] at hc
    obtain ⟨o, ho, rfl⟩ := hc
    simp only [oneC]
    intro e; subst e
    exact hx (.tail _ ho)
theorem row_twice {n : Nat} {l : List Int} {x y : Int} (h : Row n (y :: l)) (hx : x ∈ l) : (rowT n (y :: l)).put x [(n : Int)] = (rowT n (y :: l), false, 2) := by
  have hx2 := h.rg x (.tail _ hx)
  have ho := out_false (t := rowT n (y :: l)) hx2.1 hx2.2 (in5 h.n5 _)
  have hf : (qfind (rowT n (y :: l)).q x).isSome = true := by
    simp only [qfind, List.findIdx?_isSome, List.any_eq_true, decide_eq_true_eq]
    exact ⟨oneC n x, by simp only [rowT, List.tail_cons]; exact List.mem_map.2 ⟨x, hx, rfl⟩, rfl⟩
  obtain ⟨i, hi⟩ := Option.isSome_iff_exists.1 hf
  rw [Tab.put, if_neg (by rw [ho]; simp), hi]
theorem row_again {n : Nat} {x : Int} (h : Row n [x]) : (rowT n [x]).put x [(n : Int)] = (rowT n [x], true, 0) := by
  have hx := h.rg x (.head _)
  have h5 := h.n5
  rw [put_now hx.1 hx.2 (in5 h.n5 _) (by simp) (by simp [rowT]) (by simp [rowT]) ?_ (by simp [rowT])]
  · simp [rowT, markL]
  · simp [freeC, freeN, rowT, marks, List.getElem?_replicate, List.getElem?_set, h5]
    rcases (by omega : n = 0 ∨ n = 1 ∨ n = 2 ∨ n = 3 ∨ n = 4) with rfl | rfl | rfl | rfl | rfl <;> rfl
/-- the first, behind those that wait -/
def rowX (n : Nat) (l : List Int) (x : Int) : Tab := ⟨(rowT n l).hold, (rowT n l).q ++ [oneC n x]⟩
theorem marks_true : ∀ (A : List Clm) (wl : List Bool) (m : Nat), m < wl.length → (wl[m]? = some true ∨ ∃ c ∈ A, (m : Int) ∈ c.ns) → (marks wl A)[m]? = some true
  | [], wl, m, hm, h => by
    rcases h with h | ⟨c, hc, _⟩
    · exact h
    · cases hc
  | c :: A, wl, m, hm, h => by
    show (marks (markL wl c.ns true) A)[m]? = _
    have key : ∀ (ns : List Int) (wl : List Bool), m < wl.length → ((m : Int) ∈ ns ∨ wl[m]? = some true) → (markL wl ns true)[m]? = some true := fun ns => by
      induction ns with
      | nil => intro wl _ h; rcases h with h | h; · simp at h
               exact h
      | cons n ns ih =>
        intro wl hm h
        refine ih (wl.set n.toNat true) (by simpa using hm) ?_
        by_cases hn : n.toNat = m
        · exact .inr (by rw [List.getElem?_set, if_pos hn, if_pos (by omega)])
        · rcases h with h | h
          · rcases List.mem_cons.1 h with h | h
            · omega
            · exact .inl h
          · exact .inr (by rw [List.getElem?_set_ne hn]; exact h)
    refine marks_true A _ m (by rw [markL_len]; exact hm) ?_
    rcases h with h | ⟨c', hc, h⟩
    · exact .inl (key c.ns wl hm (.inr h))
    · rcases List.mem_cons.1 hc with rfl | hc
      · exact .inl (key _ wl hm (.inl h))
      · exact .inr ⟨c', hc, h⟩
theorem row_behind {n : Nat} {l : List Int} {x y : Int} (h : Row n (x :: y :: l)) : (rowT n (x :: y :: l)).put x [(n : Int)] = (rowX n (x :: y :: l) x, false, 0) := by
  have hx := h.rg x (.head _)
  have hst := row_stuck h
  have hg : Tab.g ⟨(rowT n (x :: y :: l)).hold, (rowT n (x :: y :: l)).q ++ [oneC n x]⟩ = (⟨(rowT n (x :: y :: l)).hold, (rowT n (x :: y :: l)).q ++ [oneC n x]⟩, []) := by
    refine grants_end ?_
    simp only
    rw [scan_app _ _ _ hst]
    have : freeC (rowT n (x :: y :: l)).hold (marks (List.replicate (rowT n (x :: y :: l)).hold.length false) (rowT n (x :: y :: l)).q) (oneC n x) = false := by
      simp only [freeC, oneC, List.all_cons, List.all_nil, Bool.and_true, freeN, Int.toNat_natCast]
      rw [marks_true _ _ n (by rw [List.length_replicate, row_len]; exact h.n5) (.inr ⟨oneC n y, by simp [rowT], by simp [oneC]⟩)]
      rfl
    simp only [scan, this]; rfl
  rw [put_new hx.1 hx.2 (in5 h.n5 _) (by simp) ?_]
  · rw [show (⟨x, [(n : Int)]⟩ : Clm) = oneC n x from rfl, hg]; rfl
  · intro c hc
    simp only [rowT, List.tail_cons, List.mem_map] at hc
    obtain ⟨o, ho, rfl⟩ := hc
    simp only [oneC]
    intro e; subst e
    exact (List.nodup_cons.1 h.nd).1 ho
theorem row_drop {n : Nat} {l : List Int} {x : Int} (h : Row n (x :: l)) : (rowX n (x :: l) x).drop x = (rowT n (x :: l), [], 0) := by
  have hx := h.rg x (.head _)
  have ho : (rowX n (x :: l) x).out x [] = false := out_false hx.1 hx.2 (by intro m hm; cases hm)
  have hno : ∀ c ∈ (rowT n (x :: l)).q, c.t ≠ x := fun c hc => by
    simp only [rowT, List.tail_cons, List.mem_map] at hc
    obtain ⟨o, hm, rfl⟩ := hc
    simp only [oneC]
    intro e; subst e
    exact (List.nodup_cons.1 h.nd).1 hm
  have hf : qfind (rowX n (x :: l) x).q x = some (rowT n (x :: l)).q.length := by
    have := qfind_none hno
    simp only [qfind] at this
    simp only [rowX, qfind, List.findIdx?_append, this]
    simp [oneC]
  have he : (rowX n (x :: l) x).q.eraseIdx (rowT n (x :: l)).q.length = (rowT n (x :: l)).q := by
    simp only [rowX]
    rw [List.eraseIdx_append_of_length_le (Nat.le_refl _)]; simp
  have hg : Tab.g (rowT n (x :: l)) = (rowT n (x :: l), []) := g_stuck (row_stuck h)
  rw [Tab.drop, if_neg (by rw [ho]; simp), hf]
  simp only [he]
  rw [show (⟨(rowX n (x :: l) x).hold, (rowT n (x :: l)).q⟩ : Tab) = rowT n (x :: l) from rfl, hg]
theorem row_release {n : Nat} {l : List Int} {x : Int} (h : Row n (x :: l)) : (rowT n (x :: l)).release x (n : Int) = (rowT n l, l.take 1, 0) := by
  have hx := h.rg x (.head _)
  have h5 := h.n5
  have ho := out_false (t := rowT n (x :: l)) hx.1 hx.2 (in5 h.n5 _)
  have hset : (rowT n (x :: l)).hold.set n 0 = (List.replicate 5 0).set n 0 := by simp only [rowT]; rw [List.set_set]
  rw [Tab.release, if_neg (by rw [ho]; simp), if_neg (by rw [Int.toNat_natCast, row_hold h5]; simp)]
  simp only [Int.toNat_natCast, hset]
  match l, h with
  | [], h => rfl
  | y :: l, h =>
    have hr : Row n (y :: l) := ⟨h5, (List.nodup_cons.1 h.nd).2, fun z hz => h.rg z (.tail _ hz)⟩
    have hq : (rowT n (x :: y :: l)).q = oneC n y :: l.map (oneC n) := rfl
    rw [hq]
    have hsc : scan ((List.replicate 5 (0 : Int)).set n 0) (List.replicate ((List.replicate 5 (0 : Int)).set n 0).length false) (oneC n y :: l.map (oneC n)) = some 0 := by
      have : freeC ((List.replicate 5 (0 : Int)).set n 0) (List.replicate ((List.replicate 5 (0 : Int)).set n 0).length false) (oneC n y) = true := by
        simp [freeC, freeN, oneC, List.getElem?_replicate, List.getElem?_set, h5]
        rcases (by omega : n = 0 ∨ n = 1 ∨ n = 2 ∨ n = 3 ∨ n = 4) with rfl | rfl | rfl | rfl | rfl <;> rfl
      simp only [scan, this, if_true]
    have hg : Tab.g ⟨(List.replicate 5 0).set n 0, oneC n y :: l.map (oneC n)⟩ = (rowT n (y :: l), [y]) := by
      rw [Tab.g, grants_one (i := 0) (c := oneC n y) hsc rfl]
      have hm : markL ((List.replicate 5 (0 : Int)).set n 0) (oneC n y).ns (oneC n y).t = (List.replicate 5 0).set n y := by
        simp only [oneC, markL, List.foldl_cons, List.foldl_nil, Int.toNat_natCast, List.set_set]
      rw [hm]
      exact grants_end (t := rowT n (y :: l)) (scan_stuck (row_stuck hr))
    rw [hg]
    rfl
end Go.Proofs.Ytpgoemmjhnnmoaa.Ab
