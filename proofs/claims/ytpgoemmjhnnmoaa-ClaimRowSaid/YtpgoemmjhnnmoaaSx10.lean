/- The second machine: calls. -/
import Derived.Test.YtpgoemmjhnnmoaaSx9
namespace Go.Proofs.Ytpgoemmjhnnmoaa.Ab
open Go
set_option linter.unusedVariables false
/-- which of the caller's blocks are known no more: those that were handed over and may have moved -/
def kills (σ : List Nat) (i : Nat) : Option Nat :=
  match idx σ i with
  | some _ => none
  | none => some i
/-- the caller's number of a block of the callee -/
def gback (σ : List Nat) (n j : Nat) : Option Nat :=
  match σ[j]? with
  | some i => some i
  | none => some (n + (j - σ.length))
def bjoin (h : SH) (j : Nat) : Option B2 :=
  match h[j]? with
  | some b => b
  | none => none
def back1 (σ : List Nat) (k : Nat) (n : Nat) (h' : SH) : Nat → SH → SH
  | _, [] => []
  | i, b :: r => (match idx σ i with | some j => (bjoin h' j).map (B2.cv (gback σ n)) | none => b.map (B2.cv (kills (σ.drop k)))) :: back1 σ k n h' (i + 1) r
def back (σ : List Nat) (k : Nat) (h h' : SH) : SH := back1 σ k h.length h' 0 h ++ (h'.drop σ.length).map (Option.map (B2.cv (gback σ h.length)))
def Wd.bk (w w1 : Wd) (σ : List Nat) (n n1 : Nat) : Wd :=
  ⟨fun i => if i < n then (match idx σ i with | some j => if j < n1 then w1.ρ j else none | none => w.ρ i) else (if i - n + σ.length < n1 then w1.ρ (i - n + σ.length) else none), w1.fro, w1.rl⟩
section
variable {T : AT} {k k' : Nat} {Q : XT → SE → SH → Prop} {K : SE → SH → Prop} {e e' e1 e2 : SE} {h h' h1 h2 : SH}
theorem back1_length (σ : List Nat) (k n : Nat) (h' : SH) : ∀ (h : SH) (i : Nat), (back1 σ k n h' i h).length = h.length
  | [], _ => rfl
  | b :: r, i => by simp [back1, back1_length σ k n h' r (i + 1)]
theorem back1_get (σ : List Nat) (k n : Nat) (h' : SH) : ∀ (h : SH) (i j : Nat) (x : Option B2), (back1 σ k n h' i h)[j]? = some x →
    ∃ b, h[j]? = some b ∧ x = (match idx σ (i + j) with | some d => (bjoin h' d).map (B2.cv (gback σ n)) | none => b.map (B2.cv (kills (σ.drop k))))
  | [], _, j, x, hx => by simp [back1] at hx
  | b :: r, i, 0, x, hx => by simp [back1] at hx; exact ⟨b, rfl, hx.symm⟩
  | b :: r, i, j + 1, x, hx => by
    simp only [back1, List.getElem?_cons_succ] at hx
    obtain ⟨b', h1, h2⟩ := back1_get σ k n h' r (i + 1) j x hx
    exact ⟨b', by simpa using h1, by rw [h2, show i + 1 + j = i + (j + 1) by omega]⟩
theorem back_length (σ : List Nat) (h h' : SH) : (back σ k h h').length = h.length + (h'.length - σ.length) := by simp [back, back1_length]
/-- a block of the memory behind: one of the callee's, or one that was not handed over -/
theorem back_get {σ : List Nat} {i : Nat} {b : B2} (hb : (back σ k h h')[i]? = some (some b)) :
    (∃ j b0, h'[j]? = some (some b0) ∧ b = b0.cv (gback σ h.length) ∧ (i < h.length ∧ idx σ i = some j ∨ h.length ≤ i ∧ j = i - h.length + σ.length)) ∨
    (∃ b0, i < h.length ∧ idx σ i = none ∧ h[i]? = some (some b0) ∧ b = b0.cv (kills (σ.drop k))) := by
  by_cases hi : i < h.length
  · rw [back, List.getElem?_append_left (by rw [back1_length]; exact hi)] at hb
    obtain ⟨b', a1, a2⟩ := back1_get _ _ _ _ _ _ _ _ hb
    rw [Nat.zero_add] at a2
    cases hd : idx σ i with
    | some d =>
      simp only [hd, bjoin] at a2
      cases hx : h'[d]? with
      | none => simp [hx] at a2
      | some y =>
        cases y with
        | none => simp [hx] at a2
        | some b0 => simp [hx] at a2; exact .inl ⟨d, b0, hx, a2, .inl ⟨hi, rfl⟩⟩
    | none =>
      simp only [hd] at a2
      cases b' with
      | none => simp at a2
      | some b0 => simp at a2; exact .inr ⟨b0, hi, rfl, a1, a2⟩
  · rw [back, List.getElem?_append_right (by rw [back1_length]; omega), back1_length] at hb
    obtain ⟨y, a1, a2⟩ := get_map hb
    rw [List.getElem?_drop] at a1
    cases y with
    | none => simp at a2
    | some b0 => simp at a2; exact .inl ⟨_, b0, a1, a2, .inr ⟨by omega, by omega⟩⟩
theorem idx_of {σ : List Nat} (hn : σ.Nodup) {i j : Nat} (h : σ[j]? = some i) : idx σ i = some j := by
  cases hi : idx σ i with
  | none => exact (idx_none hi j h).elim
  | some d => rw [nodup_get hn (idx_get hi) h]
def pinsOk (k k' : Nat) (σ : List Nat) : Bool := (σ.drop k').all fun i => decide (k ≤ i)
/-- the memory behind a call, as the caller knows it -/
theorem RH.back {w w1 : Wd} {ch ch1 : AH} {σ : List Nat} (r : RH w h ch) (hn : σ.Nodup) (r1 : RH w1 h1 ch1) (f : Fr k' (w.vw σ h.length) (Ab.view σ h) ch w1 h1 ch1) (hp : pinsOk k k' σ = true) (hσ : ∀ x ∈ σ, x < h.length) :
    RH (w.bk w1 σ h.length h1.length) (back σ k' h h1) ch1 ∧ CvOk (gback σ h.length) w1 h1.length (w.bk w1 σ h.length h1.length) (back σ k' h h1).length ∧
    CvOk (kills (σ.drop k')) w h.length (w.bk w1 σ h.length h1.length) (back σ k' h h1).length ∧ Fr k w h ch (w.bk w1 σ h.length h1.length) (back σ k' h h1) ch1 := by
  have hlen := back_length (k := k') σ h h1
  -- the callee's blocks
  have ρ1 : ∀ i j, (i < h.length ∧ idx σ i = some j ∨ h.length ≤ i ∧ j = i - h.length + σ.length) → j < h1.length → (w.bk w1 σ h.length h1.length).ρ i = w1.ρ j := fun i j hij hj => by
    rcases hij with ⟨a1, a2⟩ | ⟨a1, rfl⟩
    · simp only [Wd.bk, a2]; rw [if_pos a1, if_pos hj]
    · simp only [Wd.bk]; rw [if_neg (by omega), if_pos hj]
  have ρ0 : ∀ i, i < h.length → idx σ i = none → (w.bk w1 σ h.length h1.length).ρ i = w.ρ i := fun i a1 a2 => by
    simp only [Wd.bk, a2]; rw [if_pos a1]
  have lv : ∀ j c, (∃ b0, (Ab.view σ h)[j]? = some (some b0)) → (w.vw σ h.length).ρ j = some c → ∃ i b0, σ[j]? = some i ∧ h[i]? = some (some b0) ∧ w.ρ i = some c := fun j c ⟨b0, hb⟩ hc => by
    obtain ⟨i, b1, a1, a2, rfl⟩ := view_get hb
    rw [vw_ρ a1 (live_lt a2)] at hc
    exact ⟨i, b1, a1, a2, hc⟩
  have src : ∀ j b0 c, h1[j]? = some (some b0) → w1.ρ j = some c → (∃ i b0, idx σ i ≠ none ∧ h[i]? = some (some b0) ∧ w.ρ i = some c) ∨ ch.next ≤ c := fun j b0 c hj hc => by
    rcases f.src j b0 c hj hc with ⟨j', b', a1, a2⟩ | a1
    · obtain ⟨i, b2, c1, c2, c3⟩ := lv j' c ⟨b', a1⟩ a2
      exact .inl ⟨i, b2, by rw [idx_of hn c1]; simp, c2, c3⟩
    · exact .inr a1
  have notin : ∀ {i c} {b0 : B2}, idx σ i = none → h[i]? = some (some b0) → w.ρ i = some c → ∀ (j : Nat) (b : B2), (Ab.view σ h)[j]? = some (some b) → (w.vw σ h.length).ρ j ≠ some c := fun {i c b0} a1 a2 a3 j b hb hc => by
    obtain ⟨i', b', c1, c2, c3⟩ := lv j c ⟨b, hb⟩ hc
    have := r.inj _ _ _ _ c c2 a2 c3 a3
    subst this
    rw [idx_of hn c1] at a1
    cases a1
  have cg : CvOk (gback σ h.length) w1 h1.length (w.bk w1 σ h.length h1.length) (Ab.back σ k' h h1).length := by
    refine ⟨fun j i hj hi => ?_, fun _ _ h => h, fun _ _ _ _ => rfl⟩
    simp only [gback] at hi
    cases hs : σ[j]? with
    | some x =>
      simp only [hs] at hi; cases hi
      have hx := hσ _ (List.mem_of_getElem? hs)
      exact ⟨by rw [hlen]; omega, ρ1 _ j (.inl ⟨hx, idx_of hn hs⟩) hj⟩
    | none =>
      simp only [hs] at hi; cases hi
      have : σ.length ≤ j := List.getElem?_eq_none_iff.1 hs
      exact ⟨by rw [hlen]; omega, ρ1 _ j (.inr ⟨by omega, by omega⟩) hj⟩
  have ck : CvOk (kills (σ.drop k')) w h.length (w.bk w1 σ h.length h1.length) (Ab.back σ k' h h1).length := by
    refine ⟨fun i j hi hj => ?_, f.fro, fun i c hi hc => f.rl c (r.lt i c hi hc)⟩
    simp only [kills] at hj
    split at hj
    · cases hj
    · rename_i hd
      cases hj
      refine ⟨by rw [hlen]; omega, ?_⟩
      cases hs : idx σ i with
      | none => exact ρ0 i hi hs
      | some j =>
        have hj := idx_get hs
        have hjk : j < k' := by
          rcases Nat.lt_or_ge j k' with h0 | h0
          · exact h0
          · exact (idx_none hd (j - k') (by rw [List.getElem?_drop, ← hj]; congr 1; omega)).elim
        have hjl := (List.getElem?_eq_some_iff.1 hj).1
        have := f.pin j hjk (by simp only [Ab.view, List.length_map]; exact hjl)
        rw [ρ1 i j (.inl ⟨hi, hs⟩) this.1, this.2, vw_ρ hj hi]
  have hsame : ∀ {i c} {b0 : B2}, idx σ i = none → h[i]? = some (some b0) → w.ρ i = some c → ch1.blk c = ch.blk c ∧ w1.fro c = none := fun {i c b0} a1 a2 a3 => by
    have hc := r.lv a2 a3
    refine ⟨f.same c hc (notin a1 a2 a3), ?_⟩
    cases hf : w1.fro c with
    | none => rfl
    | some row =>
      rcases f.frz c row hf with h0 | h0 | ⟨j, b', h3, h4⟩
      · have h0 : w.fro c = some row := h0
        rw [r.nf i b0 c a2 a3] at h0; cases h0
      · omega
      · exact (notin a1 a2 a3 j b' h3 h4).elim
  refine ⟨⟨?_, ?_, ?_, r1.fro, ?_, ?_⟩, cg, ck, ⟨f.nx, f.fro, f.rl, ?_, ?_, ?_, ?_⟩⟩
  · intro i j bi bj c hi hj hci hcj
    rcases back_get hi with ⟨j1, b1, a1, a2, a3⟩ | ⟨b1, a1, a2, a3, a4⟩ <;> rcases back_get hj with ⟨j2, b2, c1, c2, c3⟩ | ⟨b2, c1, c2, c3, c4⟩
    · rw [ρ1 i j1 a3 (live_lt a1)] at hci
      rw [ρ1 j j2 c3 (live_lt c1)] at hcj
      have := r1.inj _ _ _ _ c a1 c1 hci hcj
      subst this
      rcases a3 with ⟨a4, a5⟩ | ⟨a4, a5⟩ <;> rcases c3 with ⟨c4, c5⟩ | ⟨c4, c5⟩
      · have e1 := idx_get a5; have e2 := idx_get c5; rw [e1] at e2; cases e2; rfl
      · have := (List.getElem?_eq_some_iff.1 (idx_get a5)).1; omega
      · have := (List.getElem?_eq_some_iff.1 (idx_get c5)).1; omega
      · omega
    · rw [ρ1 i j1 a3 (live_lt a1)] at hci
      rw [ρ0 j c1 c2] at hcj
      have hcl := r.lv c3 hcj
      rcases src j1 b1 c a1 hci with ⟨i', b', d1, d2, d3⟩ | d1
      · have := r.inj _ _ _ _ c d2 c3 d3 hcj; subst this; exact (d1 c2).elim
      · omega
    · rw [ρ1 j j2 c3 (live_lt c1)] at hcj
      rw [ρ0 i a1 a2] at hci
      have hcl := r.lv a3 hci
      rcases src j2 b2 c c1 hcj with ⟨i', b', d1, d2, d3⟩ | d1
      · have := r.inj _ _ _ _ c d2 a3 d3 hci; subst this; exact (d1 a2).elim
      · omega
    · rw [ρ0 i a1 a2] at hci
      rw [ρ0 j c1 c2] at hcj
      exact r.inj _ _ _ _ c a3 c3 hci hcj
  · intro i c hi hc
    simp only [Wd.bk] at hc
    split at hc
    · rename_i hlt
      split at hc
      · split at hc
        · rename_i hj; exact r1.lt _ c hj hc
        · cases hc
      · exact Nat.lt_of_lt_of_le (r.lt i c hlt hc) f.nx
    · split at hc
      · rename_i hj; exact r1.lt _ c hj hc
      · cases hc
  · intro i b c hi hc
    rcases back_get hi with ⟨j1, b1, a1, a2, a3⟩ | ⟨b1, a1, a2, a3, a4⟩
    · rw [ρ1 i j1 a3 (live_lt a1)] at hc; exact r1.nf j1 b1 c a1 hc
    · rw [ρ0 i a1 a2] at hc; exact (hsame a2 a3 hc).2
  · intro i b c hi hc
    rcases back_get hi with ⟨j1, b1, a1, a2, a3⟩ | ⟨b1, a1, a2, a3, a4⟩
    · rw [ρ1 i j1 a3 (live_lt a1)] at hc
      obtain ⟨cb, h3, h4⟩ := r1.blk j1 b1 c a1 hc
      exact ⟨cb, h3, by rw [a2]; exact h4.cv cg rfl⟩
    · rw [ρ0 i a1 a2] at hc
      obtain ⟨cb, h3, h4⟩ := r.blk i b1 c a3 hc
      exact ⟨cb, by rw [(hsame a2 a3 hc).1]; exact h3, by rw [a4]; exact h4.cv ck (f.rl c (r.lv a3 hc))⟩
  · intro i b hi hc
    rcases back_get hi with ⟨j1, b1, a1, a2, a3⟩ | ⟨b1, a1, a2, a3, a4⟩
    · rw [ρ1 i j1 a3 (live_lt a1)] at hc
      obtain ⟨esz, h3⟩ := r1.vir j1 b1 a1 hc
      exact ⟨esz, by rw [a2, h3]; rfl⟩
    · rw [ρ0 i a1 a2] at hc
      obtain ⟨esz, h3⟩ := r.vir i b1 a3 hc
      exact ⟨esz, by rw [a4, h3]; rfl⟩
  · intro c hc hno
    refine f.same c hc fun j b hj hcj => ?_
    obtain ⟨i, b0, _, a2, a3⟩ := lv j c ⟨b, hj⟩ hcj
    exact hno i b0 a2 a3
  · intro i hi hl
    refine ⟨by rw [hlen]; omega, ?_⟩
    have : kills (σ.drop k') i = some i := by
      simp only [kills]
      split
      · rename_i d hd
        have := List.all_eq_true.1 hp i (List.mem_of_getElem? (idx_get hd))
        simp at this; omega
      · rfl
    exact (ck.ρ i i hl this).2
  · intro i b c hi hc
    rcases back_get hi with ⟨j1, b1, a1, a2, a3⟩ | ⟨b1, a1, a2, a3, a4⟩
    · rw [ρ1 i j1 a3 (live_lt a1)] at hc
      rcases src j1 b1 c a1 hc with ⟨i', b', d1, d2, d3⟩ | d1
      · exact .inl ⟨i', b', d2, d3⟩
      · exact .inr d1
    · rw [ρ0 i a1 a2] at hc; exact .inl ⟨i, b1, a3, hc⟩
  · intro id row hf
    rcases f.frz id row hf with h0 | h0 | ⟨j, b', h3, h4⟩
    · exact .inl h0
    · exact .inr (.inl h0)
    · obtain ⟨i, b0, _, a2, a3⟩ := lv j id ⟨b', h3⟩ h4
      exact .inr (.inr ⟨i, b0, a2, a3⟩)
/-- a call, with a part of the memory handed over -/
theorem CK_call {d : Option Nat} {g : Nat} {args : List SV} {rest : List AOp} {args0 : List SV} {h0 : SH} {R : SV → SH → Prop} (σ : List Nat) (spec : Ret2 T k' g args0 h0 R) (hn : σ.Nodup) (hσ : ∀ x ∈ σ, x < h.length) (hp : pinsOk k k' σ = true)
    (ha : SV.cvs (idx σ) args = args0) (hh : view σ h = h0) (hk : ∀ v h', R v h' → WO2 T k rest (epu (e.cv (kills (σ.drop k'))) d (v.cv (gback σ h.length))) (back σ k' h h') K) :
    CK T k K e h (some ⟨d, g, args, rest⟩) := by
  subst ha
  subst hh
  intro w ce ch cargs r he hargs
  obtain ⟨n, cv, ch1, w1, v, h1, b1, b2, b3, b4, b5⟩ := spec.run (w.vw σ h.length) cargs ch (r.view hn) (hargs.cv view_cv)
  obtain ⟨c1, c2, c3, c4⟩ := r.back hn b3 b5 hp hσ
  exact ⟨n, cv, ch1, _, _, _, b1, c1, (he.cv c3).put (b4.cv c2) d, c4, hk v h1 b2⟩
end
end Go.Proofs.Ytpgoemmjhnnmoaa.Ab
