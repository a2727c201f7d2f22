/- The second machine: steps of memory. -/
import Derived.Test.YtpgoemmjhnnmoaaSx1
namespace Go.Proofs.Ytpgoemmjhnnmoaa.Ab
open Go
set_option linter.unusedVariables false
def up {α : Type} (f : Nat → α) (i : Nat) (v : α) : Nat → α := fun j => if j = i then v else f j
theorem up_same {α : Type} (f : Nat → α) (i : Nat) (v : α) : up f i v i = v := by simp [up]
theorem up_ne {α : Type} (f : Nat → α) {i j : Nat} (v : α) (h : j ≠ i) : up f i v j = f j := by simp [up, h]
section
variable {k : Nat} {w : Wd} {h : SH} {ch : AH}
theorem live_lt {i : Nat} {b : B2} (hi : h[i]? = some (some b)) : i < h.length := (List.getElem?_eq_some_iff.1 hi).1
theorem RH.lv (r : RH w h ch) {i c : Nat} {b : B2} (hi : h[i]? = some (some b)) (hc : w.ρ i = some c) : c < ch.next := r.lt i c (live_lt hi) hc
def Wd.add (w : Wd) (n c len : Nat) : Wd := ⟨up w.ρ n (some c), w.fro, up w.rl c len⟩
theorem RH.addLe (r : RH w h ch) (len : Nat) : Le h.length w (w.add h.length ch.next len) where
  ρ := fun i hi => up_ne _ _ (by omega)
  fro := fun _ _ h => h
  rl := fun i c hi hc => up_ne _ _ (by have := r.lt i c hi hc; omega)
theorem get_snoc {b : B2} {i : Nat} {x : B2} (hi : (h ++ [some b])[i]? = some (some x)) : (i < h.length ∧ h[i]? = some (some x)) ∨ (i = h.length ∧ x = b) := by
  by_cases hlt : i < h.length
  · rw [List.getElem?_append_left hlt] at hi; exact .inl ⟨hlt, hi⟩
  · rw [List.getElem?_append_right (by omega)] at hi
    have : i - h.length = 0 := by
      have := (List.getElem?_eq_some_iff.1 hi).1
      simp at this; omega
    rw [this] at hi
    simp at hi
    exact .inr ⟨by omega, hi.symm⟩
/-- a new block -/
theorem RH.alloc (r : RH w h ch) {b : B2} {cb : Blk} {len : Nat} (hb : RB (w.add h.length ch.next len) (h.length + 1) ch.next b cb) :
    RH (w.add h.length ch.next len) (h ++ [some b]) (ch.alloc cb) ∧ Fr k w h ch (w.add h.length ch.next len) (h ++ [some b]) (ch.alloc cb) := by
  have hle := r.addLe len
  have hold : ∀ c, c < ch.next → (ch.alloc cb).blk c = ch.blk c := fun c hc => by simp only [AH.alloc]; rw [if_neg (by omega)]
  have hnew : (ch.alloc cb).blk ch.next = some cb := by simp [AH.alloc]
  have hρ : (w.add h.length ch.next len).ρ h.length = some ch.next := up_same _ _ _
  refine ⟨⟨?_, ?_, ?_, ?_, ?_, ?_⟩, ⟨Nat.le_succ _, fun _ _ h => h, fun c hc => up_ne _ _ (by omega), fun c hc _ => hold c hc, fun i hi hn => ⟨by simp; omega, hle.ρ i hn⟩, ?_, fun _ _ h => .inl h⟩⟩
  · intro i j bi bj c hi hj hci hcj
    rcases get_snoc hi with ⟨h1, h2⟩ | ⟨rfl, rfl⟩ <;> rcases get_snoc hj with ⟨h3, h4⟩ | ⟨rfl, rfl⟩
    · rw [hle.ρ _ h1] at hci; rw [hle.ρ _ h3] at hcj; exact r.inj i j _ _ c h2 h4 hci hcj
    · rw [hle.ρ _ h1] at hci; rw [hρ] at hcj; cases hcj; have := r.lt i _ h1 hci; omega
    · rw [hle.ρ _ h3] at hcj; rw [hρ] at hci; cases hci; have := r.lt j _ h3 hcj; omega
    · rfl
  · intro i c hi hc
    simp only [List.length_append, List.length_cons, List.length_nil] at hi
    by_cases he : i = h.length
    · subst he; rw [hρ] at hc; cases hc; simp [AH.alloc]
    · rw [hle.ρ i (by omega)] at hc
      have := r.lt i c (by omega) hc
      simp only [AH.alloc]; omega
  · intro i bi c hi hc
    rcases get_snoc hi with ⟨h1, h2⟩ | ⟨rfl, rfl⟩
    · rw [hle.ρ _ h1] at hc; exact r.nf i _ c h2 hc
    · rw [hρ] at hc; cases hc
      show w.fro ch.next = none
      cases hf : w.fro ch.next with
      | none => rfl
      | some row => have := (r.fro _ _ hf).1; omega
  · intro id row hf
    have := r.fro id row hf
    exact ⟨Nat.lt_succ_of_lt this.1, by rw [hold _ this.1]; exact this.2⟩
  · intro i bi c hi hc
    rcases get_snoc hi with ⟨h1, h2⟩ | ⟨rfl, rfl⟩
    · rw [hle.ρ _ h1] at hc
      obtain ⟨cb', h3, h4⟩ := r.blk i _ c h2 hc
      refine ⟨cb', by rw [hold _ (r.lt i c h1 hc)]; exact h3, h4.mono hle (by simp) (hle.rl i c h1 hc)⟩
    · rw [hρ] at hc; cases hc
      exact ⟨cb, hnew, by simpa using hb⟩
  · intro i bi hi hv
    rcases get_snoc hi with ⟨h1, h2⟩ | ⟨rfl, rfl⟩
    · rw [hle.ρ _ h1] at hv; exact r.vir i _ h2 hv
    · rw [hρ] at hv; cases hv
  · intro i bi c hi hc
    rcases get_snoc hi with ⟨h1, h2⟩ | ⟨rfl, rfl⟩
    · rw [hle.ρ _ h1] at hc; exact .inl ⟨i, _, h2, hc⟩
    · rw [hρ] at hc; cases hc; exact .inr (Nat.le_refl _)
/-- a block is written -/
theorem RH.set (r : RH w h ch) {id c : Nat} {b b' : B2} {ccs' : Blk} (hi : h[id]? = some (some b)) (hc : w.ρ id = some c) (hb : RB w h.length c b' ccs') :
    RH w (h.set id (some b')) (ch.set c (some ccs')) ∧ Fr k w h ch w (h.set id (some b')) (ch.set c (some ccs')) := by
  have hlt := live_lt hi
  have hcl := r.lv hi hc
  have hget : ∀ {i : Nat} {x : B2}, (h.set id (some b'))[i]? = some (some x) → (i = id ∧ x = b') ∨ (i ≠ id ∧ h[i]? = some (some x)) := fun {i x} hx => by
    rw [List.getElem?_set] at hx
    split at hx
    · rename_i he; (try rw [if_pos hlt] at hx); cases hx; exact .inl ⟨he.symm, rfl⟩
    · rename_i he; exact .inr ⟨fun e => he e.symm, hx⟩
  have hlive : ∀ {i : Nat} {x : B2}, (h.set id (some b'))[i]? = some (some x) → ∃ y, h[i]? = some (some y) := fun {i x} hx => by
    rcases hget hx with ⟨rfl, rfl⟩ | ⟨_, h1⟩
    · exact ⟨b, hi⟩
    · exact ⟨x, h1⟩
  have hnf := r.nf id b c hi hc
  refine ⟨⟨?_, ?_, ?_, ?_, ?_, ?_⟩, ⟨Nat.le_refl _, fun _ _ h => h, fun _ _ => rfl, fun c' hc' hn => ?_, fun i _ hn => ⟨by simpa using hn, rfl⟩, ?_, fun _ _ h => .inl h⟩⟩
  · intro i j bi bj d h1 h2
    obtain ⟨x, hx⟩ := hlive h1
    obtain ⟨y, hy⟩ := hlive h2
    exact r.inj i j x y d hx hy
  · intro i d h1 h2; exact r.lt i d (by simpa using h1) h2
  · intro i x d h1 h2; obtain ⟨y, hy⟩ := hlive h1; exact r.nf i y d hy h2
  · intro i row hf
    refine ⟨(r.fro i row hf).1, ?_⟩
    simp only [AH.set]
    rw [if_neg (fun e => by subst e; rw [hnf] at hf; cases hf)]
    exact (r.fro i row hf).2
  · intro i x d h1 h2
    rw [List.length_set]
    rcases hget h1 with ⟨rfl, rfl⟩ | ⟨hne, h3⟩
    · rw [hc] at h2; cases h2
      exact ⟨ccs', by simp [AH.set], hb⟩
    · obtain ⟨cb, h4, h5⟩ := r.blk i x d h3 h2
      refine ⟨cb, ?_, h5⟩
      simp only [AH.set]
      rw [if_neg (fun e => by subst e; exact hne (r.inj i id x b d h3 hi h2 hc))]
      exact h4
  · intro i x h1 h2
    rcases hget h1 with ⟨rfl, rfl⟩ | ⟨hne, h3⟩
    · rw [hc] at h2; cases h2
    · exact r.vir i x h3 h2
  · simp only [AH.set]
    rw [if_neg (fun e => by subst e; exact hn id b hi hc)]
  · intro i x d h1 h2
    obtain ⟨y, hy⟩ := hlive h1
    exact .inl ⟨i, y, hy, h2⟩
/-- a block is given up -/
theorem RH.drop (r : RH w h ch) (id : Nat) : RH w (h.set id none) ch ∧ Fr k w h ch w (h.set id none) ch := by
  have hlive : ∀ {i : Nat} {x : B2}, (h.set id none)[i]? = some (some x) → h[i]? = some (some x) := fun {i x} hx => by
    rw [List.getElem?_set] at hx
    split at hx
    · split at hx <;> cases hx
    · exact hx
  refine ⟨⟨fun i j bi bj d h1 h2 => r.inj i j bi bj d (hlive h1) (hlive h2), fun i d h1 h2 => r.lt i d (by simpa using h1) h2, fun i x d h1 h2 => r.nf i x d (hlive h1) h2, r.fro, ?_, fun i x h1 h2 => r.vir i x (hlive h1) h2⟩,
    ⟨Nat.le_refl _, fun _ _ h => h, fun _ _ => rfl, fun c' hc' hn => rfl, fun i _ hn => ⟨by simpa using hn, rfl⟩, fun i x d h1 h2 => .inl ⟨i, x, hlive h1, h2⟩, fun _ _ h => .inl h⟩⟩
  intro i x d h1 h2
  rw [List.length_set]
  exact r.blk i x d (hlive h1) h2
/-- a row that moves: the old number is given up, a new one stands for the row, where it is or where it comes to be -/
def Wd.mv (w : Wd) (n : Nat) (c : Option Nat) (rl : Nat → Nat) : Wd := ⟨up w.ρ n c, w.fro, rl⟩
theorem RH.move (r : RH w h ch) {id : Nat} {b b' : B2} (hi : h[id]? = some (some b)) {c' : Option Nat} {ch' : AH} {rl : Nat → Nat} (hn : ch.next ≤ ch'.next)
    (hsame : ∀ d, d < ch.next → w.ρ id ≠ some d → ch'.blk d = ch.blk d) (hrl : ∀ d, d < ch.next → rl d = w.rl d) (hc' : ∀ d, c' = some d → d < ch'.next ∧ (w.ρ id = some d ∨ ch.next ≤ d))
    (hb : ∀ d, c' = some d → ∃ cb, ch'.blk d = some cb ∧ RB (w.mv h.length c' rl) (h.length + 1) d b' cb) (hv : c' = none → ∃ esz, b' = .arr esz []) :
    RH (w.mv h.length c' rl) (h.set id none ++ [some b']) ch' ∧ Le h.length w (w.mv h.length c' rl) ∧ Fr k w h ch (w.mv h.length c' rl) (h.set id none ++ [some b']) ch' := by
  have hlen : (h.set id none).length = h.length := by simp
  have hle : Le h.length w (w.mv h.length c' rl) := ⟨fun i hi => up_ne _ _ (by omega), fun _ _ h => h, fun i c h1 h2 => hrl c (r.lt i c h1 h2)⟩
  have hρ : (w.mv h.length c' rl).ρ h.length = c' := up_same _ _ _
  have hlive : ∀ {i : Nat} {x : B2}, (h.set id none)[i]? = some (some x) → i ≠ id ∧ h[i]? = some (some x) := fun {i x} hx => by
    rw [List.getElem?_set] at hx
    split at hx
    · split at hx <;> cases hx
    · rename_i he; exact ⟨fun e => he e.symm, hx⟩
  have hsn : ∀ {i : Nat} {x : B2}, (h.set id none ++ [some b'])[i]? = some (some x) → (i < h.length ∧ i ≠ id ∧ h[i]? = some (some x)) ∨ (i = h.length ∧ x = b') := fun {i x} hx => by
    rcases get_snoc hx with ⟨h1, h2⟩ | ⟨h1, h2⟩
    · exact .inl ⟨by omega, hlive h2⟩
    · exact .inr ⟨by omega, h2⟩
  have hnew : ∀ {j : Nat} {x : B2} {d : Nat}, j ≠ id → h[j]? = some (some x) → w.ρ j = some d → c' ≠ some d := fun {j x d} hj hx hd e => by
    rcases (hc' d e).2 with h1 | h1
    · exact hj (r.inj j id x b d hx hi hd h1)
    · have := r.lv hx hd; omega
  refine ⟨⟨?_, ?_, ?_, ?_, ?_, ?_⟩, hle, ⟨hn, fun _ _ h => h, hrl, fun d hd hno => hsame d hd (hno id b hi), fun i _ h1 => ⟨by simp; omega, hle.ρ i h1⟩, ?_, fun _ _ h => .inl h⟩⟩
  · intro i j bi bj d h1 h2 h3 h4
    rcases hsn h1 with ⟨a1, a2, a3⟩ | ⟨rfl, rfl⟩ <;> rcases hsn h2 with ⟨b1, b2, b3⟩ | ⟨rfl, rfl⟩
    · rw [hle.ρ _ a1] at h3; rw [hle.ρ _ b1] at h4; exact r.inj i j _ _ d a3 b3 h3 h4
    · rw [hle.ρ _ a1] at h3; rw [hρ] at h4; exact (hnew a2 a3 h3 h4).elim
    · rw [hle.ρ _ b1] at h4; rw [hρ] at h3; exact (hnew b2 b3 h4 h3).elim
    · rfl
  · intro i d h1 h2
    simp only [List.length_append, List.length_cons, List.length_nil, hlen] at h1
    by_cases he : i = h.length
    · subst he; rw [hρ] at h2; exact (hc' d h2).1
    · rw [hle.ρ i (by omega)] at h2
      exact Nat.lt_of_lt_of_le (r.lt i d (by omega) h2) hn
  · intro i x d h1 h2
    rcases hsn h1 with ⟨a1, a2, a3⟩ | ⟨rfl, rfl⟩
    · rw [hle.ρ _ a1] at h2; exact r.nf i x d a3 h2
    · rw [hρ] at h2
      rcases (hc' d h2).2 with h3 | h3
      · exact r.nf id b d hi h3
      · show w.fro d = none
        cases hf : w.fro d with
        | none => rfl
        | some row => have := (r.fro _ _ hf).1; omega
  · intro i row hf
    have h1 := r.fro i row hf
    refine ⟨Nat.lt_of_lt_of_le h1.1 hn, ?_⟩
    have hf2 : w.fro i = some row := hf
    rw [hsame i h1.1 (fun e => by have := r.nf id b i hi e; rw [this] at hf2; cases hf2)]
    exact h1.2
  · intro i x d h1 h2
    have hl1 : (h.set id none ++ [some b']).length = h.length + 1 := by simp
    rw [hl1]
    rcases hsn h1 with ⟨a1, a2, a3⟩ | ⟨rfl, rfl⟩
    · rw [hle.ρ _ a1] at h2
      obtain ⟨cb, h3, h4⟩ := r.blk i x d a3 h2
      exact ⟨cb, by rw [hsame d (r.lv a3 h2) (fun e => a2 (r.inj i id x b d a3 hi h2 e))]; exact h3, h4.mono hle (Nat.le_succ _) (hle.rl i d a1 h2)⟩
    · rw [hρ] at h2
      exact hb d h2
  · intro i x h1 h2
    rcases hsn h1 with ⟨a1, a2, a3⟩ | ⟨rfl, rfl⟩
    · rw [hle.ρ _ a1] at h2; exact r.vir i x a3 h2
    · rw [hρ] at h2; exact hv h2
  · intro i x d h1 h2
    rcases hsn h1 with ⟨a1, a2, a3⟩ | ⟨rfl, rfl⟩
    · rw [hle.ρ _ a1] at h2; exact .inl ⟨i, x, a3, h2⟩
    · rw [hρ] at h2
      rcases (hc' d h2).2 with h3 | h3
      · exact .inl ⟨id, b, hi, h3⟩
      · exact .inr h3
/-- a new number for a list that isn't there yet -/
theorem RH.virt (r : RH w h ch) (esz : Nat) : RH (w.mv h.length none w.rl) (h ++ [some (.arr esz [])]) ch ∧ Le h.length w (w.mv h.length none w.rl) ∧ Fr k w h ch (w.mv h.length none w.rl) (h ++ [some (.arr esz [])]) ch := by
  have hle : Le h.length w (w.mv h.length none w.rl) := ⟨fun i hi => up_ne _ _ (by omega), fun _ _ h => h, fun i c h1 h2 => rfl⟩
  have hρ : (w.mv h.length none w.rl).ρ h.length = none := up_same _ _ _
  refine ⟨⟨?_, ?_, ?_, r.fro, ?_, ?_⟩, hle, ⟨Nat.le_refl _, fun _ _ h => h, fun _ _ => rfl, fun d hd hno => rfl, fun i _ h1 => ⟨by simp; omega, hle.ρ i h1⟩, ?_, fun _ _ h => .inl h⟩⟩
  · intro i j bi bj d h1 h2 h3 h4
    rcases get_snoc h1 with ⟨a1, a3⟩ | ⟨rfl, rfl⟩ <;> rcases get_snoc h2 with ⟨b1, b3⟩ | ⟨rfl, rfl⟩
    · rw [hle.ρ _ a1] at h3; rw [hle.ρ _ b1] at h4; exact r.inj i j _ _ d a3 b3 h3 h4
    · rw [hρ] at h4; cases h4
    · rw [hρ] at h3; cases h3
    · rfl
  · intro i d h1 h2
    simp only [List.length_append, List.length_cons, List.length_nil] at h1
    by_cases he : i = h.length
    · subst he; rw [hρ] at h2; cases h2
    · rw [hle.ρ i (by omega)] at h2
      exact r.lt i d (by omega) h2
  · intro i x d h1 h2
    rcases get_snoc h1 with ⟨a1, a3⟩ | ⟨rfl, rfl⟩
    · rw [hle.ρ _ a1] at h2; exact r.nf i x d a3 h2
    · rw [hρ] at h2; cases h2
  · intro i x d h1 h2
    rcases get_snoc h1 with ⟨a1, a3⟩ | ⟨rfl, rfl⟩
    · rw [hle.ρ _ a1] at h2
      obtain ⟨cb, h3, h4⟩ := r.blk i x d a3 h2
      exact ⟨cb, h3, h4.mono hle (by simp) rfl⟩
    · rw [hρ] at h2; cases h2
  · intro i x h1 h2
    rcases get_snoc h1 with ⟨a1, a3⟩ | ⟨rfl, rfl⟩
    · rw [hle.ρ _ a1] at h2; exact r.vir i x a3 h2
    · exact ⟨_, rfl⟩
  · intro i x d h1 h2
    rcases get_snoc h1 with ⟨a1, a3⟩ | ⟨rfl, rfl⟩
    · rw [hle.ρ _ a1] at h2; exact .inl ⟨i, x, a3, h2⟩
    · rw [hρ] at h2; cases h2
end
end Go.Proofs.Ytpgoemmjhnnmoaa.Ab
