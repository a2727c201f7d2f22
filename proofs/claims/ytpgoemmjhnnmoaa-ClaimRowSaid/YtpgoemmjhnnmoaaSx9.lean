/- The second machine: other names for blocks; calls with a part of memory; lists that come to stay. -/
import Derived.Test.YtpgoemmjhnnmoaaSx8
namespace Go.Proofs.Ytpgoemmjhnnmoaa.Ab
open Go
set_option linter.unusedVariables false
/-! ### names -/
mutual
def SV.cv (f : Nat → Option Nat) : SV → SV
  | .p v => .p v
  | .ptr id off => match f id with | some j => .ptr j off | none => .un
  | .ep esz id j t => match f id with | some d => .ep esz d j t | none => .un
  | .sl esz id off len cap => match f id with | some d => .sl esz d off len cap | none => .un
  | .so esz id off len => match f id with | some d => .so esz d off len | none => .un
  | .mp id => match f id with | some j => .mp j | none => .un
  | .fn g a c => .fn g (SV.cvs f a) (SV.cvs f c)
  | .agg cs => .agg (SV.cvs f cs)
  | .tup cs => .tup (SV.cvs f cs)
  | .alt P v => .alt P (SV.cv f v)
  | .un => .un
termination_by structural x => x
def SV.cvs (f : Nat → Option Nat) : List SV → List SV
  | [] => []
  | v :: r => SV.cv f v :: SV.cvs f r
termination_by structural x => x
end
theorem cvs_map (f : Nat → Option Nat) : ∀ (l : List SV), SV.cvs f l = l.map (SV.cv f)
  | [] => rfl
  | v :: r => by rw [SV.cvs, cvs_map f r]; rfl
structure CvOk (f : Nat → Option Nat) (w : Wd) (n : Nat) (w' : Wd) (n' : Nat) : Prop where
  ρ : ∀ i j, i < n → f i = some j → j < n' ∧ w'.ρ j = w.ρ i
  fro : ∀ id row, w.fro id = some row → w'.fro id = some row
  rl : ∀ i c, i < n → w.ρ i = some c → w'.rl c = w.rl c
section
variable {f : Nat → Option Nat} {w w' : Wd} {n n' : Nat}
theorem get_map {α β : Type} {g : α → β} {l : List α} {j : Nat} {y : β} (h : (l.map g)[j]? = some y) : ∃ x, l[j]? = some x ∧ y = g x := by
  rw [List.getElem?_map] at h
  cases hx : l[j]? with
  | none => simp [hx] at h
  | some x => simp [hx] at h; exact ⟨x, rfl, h.symm⟩
theorem RS.cv (hc : CvOk f w n w' n') {v : SV} {a : AV} (h : RS w n v a) : RS w' n' (v.cv f) a := by
  induction h with
  | p h => exact .p (h.mono hc.fro)
  | ptr hi h =>
    simp only [SV.cv]
    split
    · rename_i j hj; have := hc.ρ _ _ hi hj; exact .ptr this.1 (this.2.trans h)
    · exact .un
  | ep hi h =>
    simp only [SV.cv]
    split
    · rename_i j hj; have := hc.ρ _ _ hi hj; exact .ep this.1 (this.2.trans h)
    · exact .un
  | sl hi h he hcap hl hlo hr =>
    simp only [SV.cv]
    split
    · rename_i j hj; have := hc.ρ _ _ hi hj; exact .sl this.1 (this.2.trans h) he hcap hl hlo (by rw [hc.rl _ _ hi h]; exact hr)
    · exact .un
  | slv hi h hcap =>
    simp only [SV.cv]
    split
    · rename_i j hj; have := hc.ρ _ _ hi hj; exact .slv this.1 (this.2.trans h) hcap
    · exact .un
  | so hi h hs =>
    simp only [SV.cv]
    split
    · rename_i j hj; have := hc.ρ _ _ hi hj; exact .so this.1 (this.2.trans h) hs
    · exact .un
  | mp hi h =>
    simp only [SV.cv]
    split
    · rename_i j hj; have := hc.ρ _ _ hi hj; exact .mp this.1 (this.2.trans h)
    · exact .un
  | fn h1 h2 h3 h4 i2 i4 =>
    simp only [SV.cv, cvs_map]
    refine .fn (by simpa using h1) (fun j s q hs hq => ?_) (by simpa using h3) (fun j s q hs hq => ?_)
    · obtain ⟨x, hx, rfl⟩ := get_map hs; exact i2 j x q hx hq
    · obtain ⟨x, hx, rfl⟩ := get_map hs; exact i4 j x q hx hq
  | agg h1 h2 ih =>
    simp only [SV.cv, cvs_map]
    refine .agg (by simpa using h1) (fun j s q hs hq => ?_)
    obtain ⟨x, hx, rfl⟩ := get_map hs; exact ih j x q hx hq
  | tup h1 h2 ih =>
    simp only [SV.cv, cvs_map]
    refine .tup (by simpa using h1) (fun j s q hs hq => ?_)
    obtain ⟨x, hx, rfl⟩ := get_map hs; exact ih j x q hx hq
  | altT hp h ih => exact .altT hp ih
  | altF hp => exact .altF hp
  | un => exact .un
def B2.cv (f : Nat → Option Nat) : B2 → B2
  | .obj cs => .obj (SV.cvs f cs)
  | .arr esz els => .arr esz els
  | .map es => .map (es.map fun x => (x.1.cv f, x.2.cv f))
def SE.cv (f : Nat → Option Nat) : SE → SE
  | [] => []
  | (s, v) :: r => (s, v.cv f) :: SE.cv f r
theorem P2.cv (hc : CvOk f w n w' n') {l : List SV} {cl : List AV} (h : P2 (RS w n) l cl) : P2 (RS w' n') (SV.cvs f l) cl := by
  rw [cvs_map]; exact P2.map (h.mono fun _ _ h => h.cv hc)
theorem RB.cv (hc : CvOk f w n w' n') {c : Nat} (hrl : w'.rl c = w.rl c) {b : B2} {cb : Blk} (h : RB w n c b cb) : RB w' n' c (b.cv f) cb := by
  cases h with
  | obj h1 h2 => exact .obj (by rw [hrl]; exact h1) (h2.cv hc)
  | arr h1 he h2 => exact .arr (by rw [hrl]; exact h1) he (h2.mono hc.fro)
  | map h => exact .map (P2.map (h.mono fun x y h => ⟨h.1.cv hc, h.2.cv hc⟩))
theorem RE.cv (hc : CvOk f w n w' n') {e : SE} {ce : Env} (h : RE w n e ce) : RE w' n' (e.cv f) ce := by
  intro s
  have h1 : ∀ (e : SE), eg (e.cv f) s = (eg e s).cv f := fun e => by
    induction e with
    | nil => rfl
    | cons p r ih =>
      obtain ⟨m, v⟩ := p
      simp only [SE.cv, eg]
      split
      · rfl
      · exact ih
  rw [h1]
  exact (h s).cv hc
theorem B2.cv_arr {f : Nat → Option Nat} {b : B2} {esz : Nat} (h : b = .arr esz []) : b.cv f = .arr esz [] := by subst h; rfl
end

/-! ### what is known is told otherwise -/
/-- a state that says less, or the same otherwise -/
def Wk (k : Nat) (e : SE) (h : SH) (e' : SE) (h' : SH) : Prop := ∀ w ce ch, RH w h ch → RE w h.length e ce → ∃ w', RH w' h' ch ∧ RE w' h'.length e' ce ∧ Fr k w h ch w' h' ch
section
variable {T : AT} {k : Nat} {Q : XT → SE → SH → Prop} {K : SE → SH → Prop} {e e' e1 e2 : SE} {h h' h1 h2 : SH}
theorem Wk.refl : Wk k e h e h := fun w ce ch r1 r2 => ⟨w, r1, r2, .refl _ _ _ _⟩
theorem Wk.trans (a : Wk k e h e1 h1) (b : Wk k e1 h1 e2 h2) : Wk k e h e2 h2 := fun w ce ch r1 r2 => by
  obtain ⟨w1, a1, a2, a3⟩ := a w ce ch r1 r2
  obtain ⟨w2, b1, b2, b3⟩ := b w1 ce ch a1 a2
  exact ⟨w2, b1, b2, a3.trans b3⟩
theorem W2.weak {c : AC} (a : Wk k e h e' h') (b : W2 T k c e' h' Q) : W2 T k c e h Q := by
  refine ⟨fun w ce ch r1 r2 => ?_⟩
  obtain ⟨w1, a1, a2, a3⟩ := a w ce ch r1 r2
  obtain ⟨n, t, ce', ch', w', e', h', b1, b2, b3, b4, b5⟩ := b.run w1 ce ch a1 a2
  exact ⟨n, t, ce', ch', w', e', h', b1, b2, b3, b4, a3.trans b5⟩
theorem WO2.weak {l : List AOp} (a : Wk k e h e' h') (b : WO2 T k l e' h' K) : WO2 T k l e h K := by
  refine ⟨fun w ce ch r1 r2 => ?_⟩
  obtain ⟨w1, a1, a2, a3⟩ := a w ce ch r1 r2
  obtain ⟨n, ce', ch', w', e', h', b1, b2, b3, b4, b5⟩ := b.run w1 ce ch a1 a2
  exact ⟨n, ce', ch', w', e', h', b1, b2, b3, b4, a3.trans b5⟩
/-- behind code, before what comes next -/
theorem W2.post {c : AC} {Q' : XT → SE → SH → Prop} (a : W2 T k c e h Q') (hq : ∀ t e h, Q' t e h → ∃ e' h', Wk k e h e' h' ∧ Q t e' h') : W2 T k c e h Q := by
  refine ⟨fun w ce ch r1 r2 => ?_⟩
  obtain ⟨n, t, ce', ch', w', e1, h1, b1, b2, b3, b4, b5⟩ := a.run w ce ch r1 r2
  obtain ⟨e', h', c1, c2⟩ := hq t e1 h1 b2
  obtain ⟨w2, d1, d2, d3⟩ := c1 w' ce' ch' b3 b4
  exact ⟨n, t, ce', ch', w2, e', h', b1, c2, d1, d2, b5.trans d3⟩
theorem W2_runw {ops : List AOp} {kp : List Nat} (hr : runK2 ops kp e h = some (e1, h1)) (a : Wk k e1 h1 e2 h2) (hq : Q .nrm e2 h2) : W2 T k (.reg ops kp) e h Q :=
  (W2_run (Q := fun t e h => t = .nrm ∧ e = e1 ∧ h = h1) hr ⟨rfl, rfl, rfl⟩).post fun t e h ⟨q1, q2, q3⟩ => by subst q1; subst q2; subst q3; exact ⟨_, _, a, hq⟩
def idx : List Nat → Nat → Option Nat
  | [], _ => none
  | a :: r, i => if a = i then some 0 else (idx r i).map (· + 1)
theorem idx_get : ∀ {σ : List Nat} {i j : Nat}, idx σ i = some j → σ[j]? = some i
  | a :: r, i, j, h => by
    simp only [idx] at h
    split at h
    · rename_i e; cases h; simp [e]
    · simp only [Option.map_eq_some_iff] at h
      obtain ⟨x, h1, rfl⟩ := h
      simpa using idx_get h1
theorem idx_none : ∀ {σ : List Nat} {i : Nat}, idx σ i = none → ∀ j : Nat, σ[j]? ≠ some i
  | [], i, h, j => by simp
  | a :: r, i, h, j => by
    simp only [idx] at h
    split at h
    · cases h
    · rename_i e
      simp only [Option.map_eq_none_iff] at h
      cases j with
      | zero => simpa using e
      | succ j => simpa using idx_none h j
def view (σ : List Nat) (h : SH) : SH := σ.map fun i => (bAt h i).map (B2.cv (idx σ))
def Wd.vw (w : Wd) (σ : List Nat) (n : Nat) : Wd := ⟨fun j => match σ[j]? with | some i => if i < n then w.ρ i else none | none => none, w.fro, w.rl⟩
theorem nodup_get {σ : List Nat} (hn : σ.Nodup) {i j x : Nat} (hi : σ[i]? = some x) (hj : σ[j]? = some x) : i = j := by
  obtain ⟨a1, a2⟩ := List.getElem?_eq_some_iff.1 hi
  obtain ⟨b1, b2⟩ := List.getElem?_eq_some_iff.1 hj
  have hp := List.pairwise_iff_getElem.1 hn
  rcases Nat.lt_trichotomy i j with h | h | h
  · exact (hp i j a1 b1 h (a2.trans b2.symm)).elim
  · exact h
  · exact (hp j i b1 a1 h (b2.trans a2.symm)).elim
theorem vw_ρ {w : Wd} {σ : List Nat} {n i j : Nat} (hj : σ[j]? = some i) (hi : i < n) : (w.vw σ n).ρ j = w.ρ i := by
  simp only [Wd.vw, hj]; rw [if_pos hi]
theorem view_get {σ : List Nat} {j : Nat} {b : B2} (hb : (view σ h)[j]? = some (some b)) : ∃ i b0, σ[j]? = some i ∧ h[i]? = some (some b0) ∧ b = b0.cv (idx σ) := by
  obtain ⟨i, h1, h2⟩ := get_map hb
  cases hx : bAt h i with
  | none => simp [hx] at h2
  | some b0 => simp [hx] at h2; exact ⟨i, b0, h1, bAt_eq hx, h2⟩
theorem view_cv {w : Wd} {σ : List Nat} : CvOk (idx σ) w h.length (w.vw σ h.length) (view σ h).length where
  ρ := fun i j hi hj => by
    have := idx_get hj
    refine ⟨by simp only [view, List.length_map]; exact (List.getElem?_eq_some_iff.1 this).1, vw_ρ this hi⟩
  fro := fun _ _ h => h
  rl := fun _ _ _ _ => rfl
theorem RH.view {w : Wd} {ch : AH} (r : RH w h ch) {σ : List Nat} (hn : σ.Nodup) : RH (w.vw σ h.length) (view σ h) ch := by
  refine ⟨fun i j b b' c hi hj hci hcj => ?_, fun i c hi hc => ?_, fun i b c hi hc => ?_, r.fro, fun i b c hi hc => ?_, fun i b hi hc => ?_⟩
  · obtain ⟨i0, b0, a1, a2, rfl⟩ := view_get hi
    obtain ⟨j0, b1, c1, c2, rfl⟩ := view_get hj
    rw [vw_ρ a1 (live_lt a2)] at hci
    rw [vw_ρ c1 (live_lt c2)] at hcj
    have := r.inj _ _ _ _ c a2 c2 hci hcj
    subst this
    exact nodup_get hn a1 c1
  · simp only [Wd.vw] at hc
    split at hc
    · split at hc
      · rename_i i0 _ hlt; exact r.lt i0 c hlt hc
      · cases hc
    · cases hc
  · obtain ⟨i0, b0, a1, a2, rfl⟩ := view_get hi
    rw [vw_ρ a1 (live_lt a2)] at hc
    exact r.nf i0 b0 c a2 hc
  · obtain ⟨i0, b0, a1, a2, rfl⟩ := view_get hi
    rw [vw_ρ a1 (live_lt a2)] at hc
    obtain ⟨cb, h3, h4⟩ := r.blk i0 b0 c a2 hc
    exact ⟨cb, h3, h4.cv view_cv rfl⟩
  · obtain ⟨i0, b0, a1, a2, rfl⟩ := view_get hi
    rw [vw_ρ a1 (live_lt a2)] at hc
    obtain ⟨esz, rfl⟩ := r.vir i0 b0 a2 hc
    exact ⟨esz, rfl⟩
def pinOk (k : Nat) (σ : List Nat) : Bool := (List.range k).all fun i => decide (σ[i]? = some i)
theorem pinOk_get {k : Nat} {σ : List Nat} (hp : pinOk k σ = true) {i : Nat} (hi : i < k) : σ[i]? = some i := by
  have := List.all_eq_true.1 hp i (by simpa using hi)
  simpa using this
theorem Wk.view (σ : List Nat) (hn : σ.Nodup) (hp : pinOk k σ = true) : Wk k e h (e.cv (idx σ)) (view σ h) := fun w ce ch r1 r2 => by
  refine ⟨w.vw σ h.length, r1.view hn, r2.cv view_cv, ⟨Nat.le_refl _, fun _ _ h => h, fun _ _ => rfl, fun _ _ _ => rfl, fun i hi hl => ?_, fun i b c hi hc => ?_, fun _ _ h => .inl h⟩⟩
  · have := pinOk_get hp hi
    refine ⟨by simp only [Ab.view, List.length_map]; exact (List.getElem?_eq_some_iff.1 this).1, vw_ρ this hl⟩
  · obtain ⟨i0, b0, a1, a2, rfl⟩ := view_get hi
    rw [vw_ρ a1 (live_lt a2)] at hc
    exact .inl ⟨i0, b0, a2, hc⟩
end
end Go.Proofs.Ytpgoemmjhnnmoaa.Ab
