/- The second machine: names, calls, lists that stay, regions whose order is open. -/
import Derived.Test.YtadbipeachcekaaMS1
import Derived.Laws.BitsLemmas
import Derived.Attr
/- The second machine: other names for blocks; calls with a part of memory; lists that come to stay. -/
namespace Go.Proofs.Ytadbipeachcekaa.Ab
open Go
set_option linter.unusedVariables false
/-! ### names -/
mutual
def SV.cv (f : Nat → Option Nat) : SV → SV
  | .p v => .p v
  | .ptr id off => match f id with | some j => .ptr j off | none => .un
  | .ep esz id j t => match f id with | some d => .ep esz d j t | none => .un
  | .sl esz id off len cap => match f id with | some d => .sl esz d off len cap | none => .un
  | .so esz id off len => match f id with | some d => .so esz d off len | none => .un
  | .mp id => match f id with | some j => .mp j | none => .un
  | .fn g a c => .fn g (SV.cvs f a) (SV.cvs f c)
  | .agg cs => .agg (SV.cvs f cs)
  | .tup cs => .tup (SV.cvs f cs)
  | .alt P v => .alt P (SV.cv f v)
  | .un => .un
termination_by structural x => x
def SV.cvs (f : Nat → Option Nat) : List SV → List SV
  | [] => []
  | v :: r => SV.cv f v :: SV.cvs f r
termination_by structural x => x
end
theorem cvs_map (f : Nat → Option Nat) : ∀ (l : List SV), SV.cvs f l = l.map (SV.cv f)
  | [] => rfl
  | v :: r => by rw [SV.cvs, cvs_map f r]; rfl
structure CvOk (f : Nat → Option Nat) (w : Wd) (n : Nat) (w' : Wd) (n' : Nat) : Prop where
  ρ : ∀ i j, i < n → f i = some j → j < n' ∧ w'.ρ j = w.ρ i
  fro : ∀ id row, w.fro id = some row → w'.fro id = some row
  rl : ∀ i c, i < n → w.ρ i = some c → w'.rl c = w.rl c
section
variable {f : Nat → Option Nat} {w w' : Wd} {n n' : Nat}
theorem get_map {α β : Type} {g : α → β} {l : List α} {j : Nat} {y : β} (h : (l.map g)[j]? = some y) : ∃ x, l[j]? = some x ∧ y = g x := by
  rw [List.getElem?_map] at h
  cases hx : l[j]? with
  | none => simp [hx] at h
  | some x => simp [hx] at h; exact ⟨x, rfl, h.symm⟩
theorem RS.cv (hc : CvOk f w n w' n') {v : SV} {a : AV} (h : RS w n v a) : RS w' n' (v.cv f) a := by
  induction h with
  | p h => exact .p (h.mono hc.fro)
  | ptr hi h =>
    simp only [SV.cv]
    split
    · rename_i j hj; have := hc.ρ _ _ hi hj; exact .ptr this.1 (this.2.trans h)
    · exact .un
  | ep hi h =>
    simp only [SV.cv]
    split
    · rename_i j hj; have := hc.ρ _ _ hi hj; exact .ep this.1 (this.2.trans h)
    · exact .un
  | sl hi h he hcap hl hlo hr =>
    simp only [SV.cv]
    split
    · rename_i j hj; have := hc.ρ _ _ hi hj; exact .sl this.1 (this.2.trans h) he hcap hl hlo (by rw [hc.rl _ _ hi h]; exact hr)
    · exact .un
  | slv hi h hcap =>
    simp only [SV.cv]
    split
    · rename_i j hj; have := hc.ρ _ _ hi hj; exact .slv this.1 (this.2.trans h) hcap
    · exact .un
  | so hi h hs =>
    simp only [SV.cv]
    split
    · rename_i j hj; have := hc.ρ _ _ hi hj; exact .so this.1 (this.2.trans h) hs
    · exact .un
  | mp hi h =>
    simp only [SV.cv]
    split
    · rename_i j hj; have := hc.ρ _ _ hi hj; exact .mp this.1 (this.2.trans h)
    · exact .un
  | fn h1 h2 h3 h4 i2 i4 =>
    simp only [SV.cv, cvs_map]
    refine .fn (by simpa using h1) (fun j s q hs hq => ?_) (by simpa using h3) (fun j s q hs hq => ?_)
    · obtain ⟨x, hx, rfl⟩ := get_map hs; exact i2 j x q hx hq
    · obtain ⟨x, hx, rfl⟩ := get_map hs; exact i4 j x q hx hq
  | agg h1 h2 ih =>
    simp only [SV.cv, cvs_map]
    refine .agg (by simpa using h1) (fun j s q hs hq => ?_)
    obtain ⟨x, hx, rfl⟩ := get_map hs; exact ih j x q hx hq
  | tup h1 h2 ih =>
    simp only [SV.cv, cvs_map]
    refine .tup (by simpa using h1) (fun j s q hs hq => ?_)
    obtain ⟨x, hx, rfl⟩ := get_map hs; exact ih j x q hx hq
  | altT hp h ih => exact .altT hp ih
  | altF hp => exact .altF hp
  | un => exact .un
def B2.cv (f : Nat → Option Nat) : B2 → B2
  | .obj cs => .obj (SV.cvs f cs)
  | .arr esz els => .arr esz els
  | .map es => .map (es.map fun x => (x.1.cv f, x.2.cv f))
def SE.cv (f : Nat → Option Nat) : SE → SE
  | [] => []
  | (s, v) :: r => (s, v.cv f) :: SE.cv f r
theorem P2.cv (hc : CvOk f w n w' n') {l : List SV} {cl : List AV} (h : P2 (RS w n) l cl) : P2 (RS w' n') (SV.cvs f l) cl := by
  rw [cvs_map]; exact P2.map (h.mono fun _ _ h => h.cv hc)
theorem RB.cv (hc : CvOk f w n w' n') {c : Nat} (hrl : w'.rl c = w.rl c) {b : B2} {cb : Blk} (h : RB w n c b cb) : RB w' n' c (b.cv f) cb := by
  cases h with
  | obj h1 h2 => exact .obj (by rw [hrl]; exact h1) (h2.cv hc)
  | arr h1 he h2 => exact .arr (by rw [hrl]; exact h1) he (h2.mono hc.fro)
  | map h hb => exact .map (P2.map (h.mono fun x y h => ⟨h.1.cv hc, h.2.cv hc⟩)) hb
theorem RE.cv (hc : CvOk f w n w' n') {e : SE} {ce : Env} (h : RE w n e ce) : RE w' n' (e.cv f) ce := by
  intro s
  have h1 : ∀ (e : SE), eg (e.cv f) s = (eg e s).cv f := fun e => by
    induction e with
    | nil => rfl
    | cons p r ih =>
      obtain ⟨m, v⟩ := p
      simp only [SE.cv, eg]
      split
      · rfl
      · exact ih
  rw [h1]
  exact (h s).cv hc
theorem B2.cv_arr {f : Nat → Option Nat} {b : B2} {esz : Nat} (h : b = .arr esz []) : b.cv f = .arr esz [] := by subst h; rfl
end

/-! ### what is known is told otherwise -/
/-- a state that says less, or the same otherwise -/
def Wk (k : Nat) (e : SE) (h : SH) (e' : SE) (h' : SH) : Prop := ∀ w ce ch, RH w h ch → RE w h.length e ce → ∃ w', RH w' h' ch ∧ RE w' h'.length e' ce ∧ Fr k w h ch w' h' ch
section
variable {T : AT} {k : Nat} {Q : XT → SE → SH → Prop} {K : SE → SH → Prop} {e e' e1 e2 : SE} {h h' h1 h2 : SH}
theorem Wk.refl : Wk k e h e h := fun w ce ch r1 r2 => ⟨w, r1, r2, .refl _ _ _ _⟩
theorem Wk.trans (a : Wk k e h e1 h1) (b : Wk k e1 h1 e2 h2) : Wk k e h e2 h2 := fun w ce ch r1 r2 => by
  obtain ⟨w1, a1, a2, a3⟩ := a w ce ch r1 r2
  obtain ⟨w2, b1, b2, b3⟩ := b w1 ce ch a1 a2
  exact ⟨w2, b1, b2, a3.trans b3⟩
theorem W2.weak {c : AC} (a : Wk k e h e' h') (b : W2 T k c e' h' Q) : W2 T k c e h Q := by
  refine ⟨fun w ce ch r1 r2 => ?_⟩
  obtain ⟨w1, a1, a2, a3⟩ := a w ce ch r1 r2
  obtain ⟨n, t, ce', ch', w', e', h', b1, b2, b3, b4, b5⟩ := b.run w1 ce ch a1 a2
  exact ⟨n, t, ce', ch', w', e', h', b1, b2, b3, b4, a3.trans b5⟩
theorem WO2.weak {l : List AOp} (a : Wk k e h e' h') (b : WO2 T k l e' h' K) : WO2 T k l e h K := by
  refine ⟨fun w ce ch r1 r2 => ?_⟩
  obtain ⟨w1, a1, a2, a3⟩ := a w ce ch r1 r2
  obtain ⟨n, ce', ch', w', e', h', b1, b2, b3, b4, b5⟩ := b.run w1 ce ch a1 a2
  exact ⟨n, ce', ch', w', e', h', b1, b2, b3, b4, a3.trans b5⟩
/-- behind code, before what comes next -/
theorem W2.post {c : AC} {Q' : XT → SE → SH → Prop} (a : W2 T k c e h Q') (hq : ∀ t e h, Q' t e h → ∃ e' h', Wk k e h e' h' ∧ Q t e' h') : W2 T k c e h Q := by
  refine ⟨fun w ce ch r1 r2 => ?_⟩
  obtain ⟨n, t, ce', ch', w', e1, h1, b1, b2, b3, b4, b5⟩ := a.run w ce ch r1 r2
  obtain ⟨e', h', c1, c2⟩ := hq t e1 h1 b2
  obtain ⟨w2, d1, d2, d3⟩ := c1 w' ce' ch' b3 b4
  exact ⟨n, t, ce', ch', w2, e', h', b1, c2, d1, d2, b5.trans d3⟩
theorem W2_runw {ops : List AOp} {kp : List Nat} (hr : runK2 ops kp e h = some (e1, h1)) (a : Wk k e1 h1 e2 h2) (hq : Q .nrm e2 h2) : W2 T k (.reg ops kp) e h Q :=
  (W2_run (Q := fun t e h => t = .nrm ∧ e = e1 ∧ h = h1) hr ⟨rfl, rfl, rfl⟩).post fun t e h ⟨q1, q2, q3⟩ => by subst q1; subst q2; subst q3; exact ⟨_, _, a, hq⟩
def idx : List Nat → Nat → Option Nat
  | [], _ => none
  | a :: r, i => if a = i then some 0 else (idx r i).map (· + 1)
theorem idx_get : ∀ {σ : List Nat} {i j : Nat}, idx σ i = some j → σ[j]? = some i
  | a :: r, i, j, h => by
    simp only [idx] at h
    split at h
    · rename_i e; cases h; simp [e]
    · simp only [Option.map_eq_some_iff] at h
      obtain ⟨x, h1, rfl⟩ := h
      simpa using idx_get h1
theorem idx_none : ∀ {σ : List Nat} {i : Nat}, idx σ i = none → ∀ j : Nat, σ[j]? ≠ some i
  | [], i, h, j => by simp
  | a :: r, i, h, j => by
    simp only [idx] at h
    split at h
    · cases h
    · rename_i e
      simp only [Option.map_eq_none_iff] at h
      cases j with
      | zero => simpa using e
      | succ j => simpa using idx_none h j
def view (σ : List Nat) (h : SH) : SH := σ.map fun i => (bAt h i).map (B2.cv (idx σ))
def Wd.vw (w : Wd) (σ : List Nat) (n : Nat) : Wd := ⟨fun j => match σ[j]? with | some i => if i < n then w.ρ i else none | none => none, w.fro, w.rl⟩
theorem nodup_get {σ : List Nat} (hn : σ.Nodup) {i j x : Nat} (hi : σ[i]? = some x) (hj : σ[j]? = some x) : i = j := by
  obtain ⟨a1, a2⟩ := List.getElem?_eq_some_iff.1 hi
  obtain ⟨b1, b2⟩ := List.getElem?_eq_some_iff.1 hj
  have hp := List.pairwise_iff_getElem.1 hn
  rcases Nat.lt_trichotomy i j with h | h | h
  · exact (hp i j a1 b1 h (a2.trans b2.symm)).elim
  · exact h
  · exact (hp j i b1 a1 h (b2.trans a2.symm)).elim
theorem vw_ρ {w : Wd} {σ : List Nat} {n i j : Nat} (hj : σ[j]? = some i) (hi : i < n) : (w.vw σ n).ρ j = w.ρ i := by
  simp only [Wd.vw, hj]; rw [if_pos hi]
theorem view_get {σ : List Nat} {j : Nat} {b : B2} (hb : (view σ h)[j]? = some (some b)) : ∃ i b0, σ[j]? = some i ∧ h[i]? = some (some b0) ∧ b = b0.cv (idx σ) := by
  obtain ⟨i, h1, h2⟩ := get_map hb
  cases hx : bAt h i with
  | none => simp [hx] at h2
  | some b0 => simp [hx] at h2; exact ⟨i, b0, h1, bAt_eq hx, h2⟩
theorem view_cv {w : Wd} {σ : List Nat} : CvOk (idx σ) w h.length (w.vw σ h.length) (view σ h).length where
  ρ := fun i j hi hj => by
    have := idx_get hj
    refine ⟨by simp only [view, List.length_map]; exact (List.getElem?_eq_some_iff.1 this).1, vw_ρ this hi⟩
  fro := fun _ _ h => h
  rl := fun _ _ _ _ => rfl
theorem RH.view {w : Wd} {ch : AH} (r : RH w h ch) {σ : List Nat} (hn : σ.Nodup) : RH (w.vw σ h.length) (view σ h) ch := by
  refine ⟨fun i j b b' c hi hj hci hcj => ?_, fun i c hi hc => ?_, fun i b c hi hc => ?_, r.fro, fun i b c hi hc => ?_, fun i b hi hc => ?_, r.wf⟩
  · obtain ⟨i0, b0, a1, a2, rfl⟩ := view_get hi
    obtain ⟨j0, b1, c1, c2, rfl⟩ := view_get hj
    rw [vw_ρ a1 (live_lt a2)] at hci
    rw [vw_ρ c1 (live_lt c2)] at hcj
    have := r.inj _ _ _ _ c a2 c2 hci hcj
    subst this
    exact nodup_get hn a1 c1
  · simp only [Wd.vw] at hc
    split at hc
    · split at hc
      · rename_i i0 _ hlt; exact r.lt i0 c hlt hc
      · cases hc
    · cases hc
  · obtain ⟨i0, b0, a1, a2, rfl⟩ := view_get hi
    rw [vw_ρ a1 (live_lt a2)] at hc
    exact r.nf i0 b0 c a2 hc
  · obtain ⟨i0, b0, a1, a2, rfl⟩ := view_get hi
    rw [vw_ρ a1 (live_lt a2)] at hc
    obtain ⟨cb, h3, h4⟩ := r.blk i0 b0 c a2 hc
    exact ⟨cb, h3, h4.cv view_cv rfl⟩
  · obtain ⟨i0, b0, a1, a2, rfl⟩ := view_get hi
    rw [vw_ρ a1 (live_lt a2)] at hc
    obtain ⟨esz, rfl⟩ := r.vir i0 b0 a2 hc
    exact ⟨esz, rfl⟩
def pinOk (k : Nat) (σ : List Nat) : Bool := (List.range k).all fun i => decide (σ[i]? = some i)
theorem pinOk_get {k : Nat} {σ : List Nat} (hp : pinOk k σ = true) {i : Nat} (hi : i < k) : σ[i]? = some i := by
  have := List.all_eq_true.1 hp i (by simpa using hi)
  simpa using this
theorem Wk.view (σ : List Nat) (hn : σ.Nodup) (hp : pinOk k σ = true) : Wk k e h (e.cv (idx σ)) (view σ h) := fun w ce ch r1 r2 => by
  refine ⟨w.vw σ h.length, r1.view hn, r2.cv view_cv, ⟨Nat.le_refl _, fun _ _ h => h, fun _ _ => rfl, fun _ _ _ => rfl, fun i hi hl => ?_, fun i b c hi hc => ?_, fun _ _ h => .inl h⟩⟩
  · have := pinOk_get hp hi
    refine ⟨by simp only [Ab.view, List.length_map]; exact (List.getElem?_eq_some_iff.1 this).1, vw_ρ this hl⟩
  · obtain ⟨i0, b0, a1, a2, rfl⟩ := view_get hi
    rw [vw_ρ a1 (live_lt a2)] at hc
    exact .inl ⟨i0, b0, a2, hc⟩
end
end Go.Proofs.Ytadbipeachcekaa.Ab
/- The second machine: calls. -/
namespace Go.Proofs.Ytadbipeachcekaa.Ab
open Go
set_option linter.unusedVariables false
/-- which of the caller's blocks are known no more: those that were handed over and may have moved -/
def kills (σ : List Nat) (i : Nat) : Option Nat :=
  match idx σ i with
  | some _ => none
  | none => some i
/-- the caller's number of a block of the callee -/
def gback (σ : List Nat) (n j : Nat) : Option Nat :=
  match σ[j]? with
  | some i => some i
  | none => some (n + (j - σ.length))
def bjoin (h : SH) (j : Nat) : Option B2 :=
  match h[j]? with
  | some b => b
  | none => none
def back1 (σ : List Nat) (k : Nat) (n : Nat) (h' : SH) : Nat → SH → SH
  | _, [] => []
  | i, b :: r => (match idx σ i with | some j => (bjoin h' j).map (B2.cv (gback σ n)) | none => b.map (B2.cv (kills (σ.drop k)))) :: back1 σ k n h' (i + 1) r
def back (σ : List Nat) (k : Nat) (h h' : SH) : SH := back1 σ k h.length h' 0 h ++ (h'.drop σ.length).map (Option.map (B2.cv (gback σ h.length)))
def Wd.bk (w w1 : Wd) (σ : List Nat) (n n1 : Nat) : Wd :=
  ⟨fun i => if i < n then (match idx σ i with | some j => if j < n1 then w1.ρ j else none | none => w.ρ i) else (if i - n + σ.length < n1 then w1.ρ (i - n + σ.length) else none), w1.fro, w1.rl⟩
section
variable {T : AT} {k k' : Nat} {Q : XT → SE → SH → Prop} {K : SE → SH → Prop} {e e' e1 e2 : SE} {h h' h1 h2 : SH}
theorem back1_length (σ : List Nat) (k n : Nat) (h' : SH) : ∀ (h : SH) (i : Nat), (back1 σ k n h' i h).length = h.length
  | [], _ => rfl
  | b :: r, i => by simp [back1, back1_length σ k n h' r (i + 1)]
theorem back1_get (σ : List Nat) (k n : Nat) (h' : SH) : ∀ (h : SH) (i j : Nat) (x : Option B2), (back1 σ k n h' i h)[j]? = some x →
    ∃ b, h[j]? = some b ∧ x = (match idx σ (i + j) with | some d => (bjoin h' d).map (B2.cv (gback σ n)) | none => b.map (B2.cv (kills (σ.drop k))))
  | [], _, j, x, hx => by simp [back1] at hx
  | b :: r, i, 0, x, hx => by simp [back1] at hx; exact ⟨b, rfl, hx.symm⟩
  | b :: r, i, j + 1, x, hx => by
    simp only [back1, List.getElem?_cons_succ] at hx
    obtain ⟨b', h1, h2⟩ := back1_get σ k n h' r (i + 1) j x hx
    exact ⟨b', by simpa using h1, by rw [h2, show i + 1 + j = i + (j + 1) by omega]⟩
theorem back_length (σ : List Nat) (h h' : SH) : (back σ k h h').length = h.length + (h'.length - σ.length) := by simp [back, back1_length]
/-- a block of the memory behind: one of the callee's, or one that was not handed over -/
theorem back_get {σ : List Nat} {i : Nat} {b : B2} (hb : (back σ k h h')[i]? = some (some b)) :
    (∃ j b0, h'[j]? = some (some b0) ∧ b = b0.cv (gback σ h.length) ∧ (i < h.length ∧ idx σ i = some j ∨ h.length ≤ i ∧ j = i - h.length + σ.length)) ∨
    (∃ b0, i < h.length ∧ idx σ i = none ∧ h[i]? = some (some b0) ∧ b = b0.cv (kills (σ.drop k))) := by
  by_cases hi : i < h.length
  · rw [back, List.getElem?_append_left (by rw [back1_length]; exact hi)] at hb
    obtain ⟨b', a1, a2⟩ := back1_get _ _ _ _ _ _ _ _ hb
    rw [Nat.zero_add] at a2
    cases hd : idx σ i with
    | some d =>
      simp only [hd, bjoin] at a2
      cases hx : h'[d]? with
      | none => simp [hx] at a2
      | some y =>
        cases y with
        | none => simp [hx] at a2
        | some b0 => simp [hx] at a2; exact .inl ⟨d, b0, hx, a2, .inl ⟨hi, rfl⟩⟩
    | none =>
      simp only [hd] at a2
      cases b' with
      | none => simp at a2
      | some b0 => simp at a2; exact .inr ⟨b0, hi, rfl, a1, a2⟩
  · rw [back, List.getElem?_append_right (by rw [back1_length]; omega), back1_length] at hb
    obtain ⟨y, a1, a2⟩ := get_map hb
    rw [List.getElem?_drop] at a1
    cases y with
    | none => simp at a2
    | some b0 => simp at a2; exact .inl ⟨_, b0, a1, a2, .inr ⟨by omega, by omega⟩⟩
theorem idx_of {σ : List Nat} (hn : σ.Nodup) {i j : Nat} (h : σ[j]? = some i) : idx σ i = some j := by
  cases hi : idx σ i with
  | none => exact (idx_none hi j h).elim
  | some d => rw [nodup_get hn (idx_get hi) h]
def pinsOk (k k' : Nat) (σ : List Nat) : Bool := (σ.drop k').all fun i => decide (k ≤ i)
/-- the memory behind a call, as the caller knows it -/
theorem RH.back {w w1 : Wd} {ch ch1 : AH} {σ : List Nat} (r : RH w h ch) (hn : σ.Nodup) (r1 : RH w1 h1 ch1) (f : Fr k' (w.vw σ h.length) (Ab.view σ h) ch w1 h1 ch1) (hp : pinsOk k k' σ = true) (hσ : ∀ x ∈ σ, x < h.length) :
    RH (w.bk w1 σ h.length h1.length) (back σ k' h h1) ch1 ∧ CvOk (gback σ h.length) w1 h1.length (w.bk w1 σ h.length h1.length) (back σ k' h h1).length ∧
    CvOk (kills (σ.drop k')) w h.length (w.bk w1 σ h.length h1.length) (back σ k' h h1).length ∧ Fr k w h ch (w.bk w1 σ h.length h1.length) (back σ k' h h1) ch1 := by
  have hlen := back_length (k := k') σ h h1
  -- the callee's blocks
  have ρ1 : ∀ i j, (i < h.length ∧ idx σ i = some j ∨ h.length ≤ i ∧ j = i - h.length + σ.length) → j < h1.length → (w.bk w1 σ h.length h1.length).ρ i = w1.ρ j := fun i j hij hj => by
    rcases hij with ⟨a1, a2⟩ | ⟨a1, rfl⟩
    · simp only [Wd.bk, a2]; rw [if_pos a1, if_pos hj]
    · simp only [Wd.bk]; rw [if_neg (by omega), if_pos hj]
  have ρ0 : ∀ i, i < h.length → idx σ i = none → (w.bk w1 σ h.length h1.length).ρ i = w.ρ i := fun i a1 a2 => by
    simp only [Wd.bk, a2]; rw [if_pos a1]
  have lv : ∀ j c, (∃ b0, (Ab.view σ h)[j]? = some (some b0)) → (w.vw σ h.length).ρ j = some c → ∃ i b0, σ[j]? = some i ∧ h[i]? = some (some b0) ∧ w.ρ i = some c := fun j c ⟨b0, hb⟩ hc => by
    obtain ⟨i, b1, a1, a2, rfl⟩ := view_get hb
    rw [vw_ρ a1 (live_lt a2)] at hc
    exact ⟨i, b1, a1, a2, hc⟩
  have src : ∀ j b0 c, h1[j]? = some (some b0) → w1.ρ j = some c → (∃ i b0, idx σ i ≠ none ∧ h[i]? = some (some b0) ∧ w.ρ i = some c) ∨ ch.next ≤ c := fun j b0 c hj hc => by
    rcases f.src j b0 c hj hc with ⟨j', b', a1, a2⟩ | a1
    · obtain ⟨i, b2, c1, c2, c3⟩ := lv j' c ⟨b', a1⟩ a2
      exact .inl ⟨i, b2, by rw [idx_of hn c1]; simp, c2, c3⟩
    · exact .inr a1
  have notin : ∀ {i c} {b0 : B2}, idx σ i = none → h[i]? = some (some b0) → w.ρ i = some c → ∀ (j : Nat) (b : B2), (Ab.view σ h)[j]? = some (some b) → (w.vw σ h.length).ρ j ≠ some c := fun {i c b0} a1 a2 a3 j b hb hc => by
    obtain ⟨i', b', c1, c2, c3⟩ := lv j c ⟨b, hb⟩ hc
    have := r.inj _ _ _ _ c c2 a2 c3 a3
    subst this
    rw [idx_of hn c1] at a1
    cases a1
  have cg : CvOk (gback σ h.length) w1 h1.length (w.bk w1 σ h.length h1.length) (Ab.back σ k' h h1).length := by
    refine ⟨fun j i hj hi => ?_, fun _ _ h => h, fun _ _ _ _ => rfl⟩
    simp only [gback] at hi
    cases hs : σ[j]? with
    | some x =>
      simp only [hs] at hi; cases hi
      have hx := hσ _ (List.mem_of_getElem? hs)
      exact ⟨by rw [hlen]; omega, ρ1 _ j (.inl ⟨hx, idx_of hn hs⟩) hj⟩
    | none =>
      simp only [hs] at hi; cases hi
      have : σ.length ≤ j := List.getElem?_eq_none_iff.1 hs
      exact ⟨by rw [hlen]; omega, ρ1 _ j (.inr ⟨by omega, by omega⟩) hj⟩
  have ck : CvOk (kills (σ.drop k')) w h.length (w.bk w1 σ h.length h1.length) (Ab.back σ k' h h1).length := by
    refine ⟨fun i j hi hj => ?_, f.fro, fun i c hi hc => f.rl c (r.lt i c hi hc)⟩
    simp only [kills] at hj
    split at hj
    · cases hj
    · rename_i hd
      cases hj
      refine ⟨by rw [hlen]; omega, ?_⟩
      cases hs : idx σ i with
      | none => exact ρ0 i hi hs
      | some j =>
        have hj := idx_get hs
        have hjk : j < k' := by
          rcases Nat.lt_or_ge j k' with h0 | h0
          · exact h0
          · exact (idx_none hd (j - k') (by rw [List.getElem?_drop, ← hj]; congr 1; omega)).elim
        have hjl := (List.getElem?_eq_some_iff.1 hj).1
        have := f.pin j hjk (by simp only [Ab.view, List.length_map]; exact hjl)
        rw [ρ1 i j (.inl ⟨hi, hs⟩) this.1, this.2, vw_ρ hj hi]
  have hsame : ∀ {i c} {b0 : B2}, idx σ i = none → h[i]? = some (some b0) → w.ρ i = some c → ch1.blk c = ch.blk c ∧ w1.fro c = none := fun {i c b0} a1 a2 a3 => by
    have hc := r.lv a2 a3
    refine ⟨f.same c hc (notin a1 a2 a3), ?_⟩
    cases hf : w1.fro c with
    | none => rfl
    | some row =>
      rcases f.frz c row hf with h0 | h0 | ⟨j, b', h3, h4⟩
      · have h0 : w.fro c = some row := h0
        rw [r.nf i b0 c a2 a3] at h0; cases h0
      · omega
      · exact (notin a1 a2 a3 j b' h3 h4).elim
  refine ⟨⟨?_, ?_, ?_, r1.fro, ?_, ?_, r1.wf⟩, cg, ck, ⟨f.nx, f.fro, f.rl, ?_, ?_, ?_, ?_⟩⟩
  · intro i j bi bj c hi hj hci hcj
    rcases back_get hi with ⟨j1, b1, a1, a2, a3⟩ | ⟨b1, a1, a2, a3, a4⟩ <;> rcases back_get hj with ⟨j2, b2, c1, c2, c3⟩ | ⟨b2, c1, c2, c3, c4⟩
    · rw [ρ1 i j1 a3 (live_lt a1)] at hci
      rw [ρ1 j j2 c3 (live_lt c1)] at hcj
      have := r1.inj _ _ _ _ c a1 c1 hci hcj
      subst this
      rcases a3 with ⟨a4, a5⟩ | ⟨a4, a5⟩ <;> rcases c3 with ⟨c4, c5⟩ | ⟨c4, c5⟩
      · have e1 := idx_get a5; have e2 := idx_get c5; rw [e1] at e2; cases e2; rfl
      · have := (List.getElem?_eq_some_iff.1 (idx_get a5)).1; omega
      · have := (List.getElem?_eq_some_iff.1 (idx_get c5)).1; omega
      · omega
    · rw [ρ1 i j1 a3 (live_lt a1)] at hci
      rw [ρ0 j c1 c2] at hcj
      have hcl := r.lv c3 hcj
      rcases src j1 b1 c a1 hci with ⟨i', b', d1, d2, d3⟩ | d1
      · have := r.inj _ _ _ _ c d2 c3 d3 hcj; subst this; exact (d1 c2).elim
      · omega
    · rw [ρ1 j j2 c3 (live_lt c1)] at hcj
      rw [ρ0 i a1 a2] at hci
      have hcl := r.lv a3 hci
      rcases src j2 b2 c c1 hcj with ⟨i', b', d1, d2, d3⟩ | d1
      · have := r.inj _ _ _ _ c d2 a3 d3 hci; subst this; exact (d1 a2).elim
      · omega
    · rw [ρ0 i a1 a2] at hci
      rw [ρ0 j c1 c2] at hcj
      exact r.inj _ _ _ _ c a3 c3 hci hcj
  · intro i c hi hc
    simp only [Wd.bk] at hc
    split at hc
    · rename_i hlt
      split at hc
      · split at hc
        · rename_i hj; exact r1.lt _ c hj hc
        · cases hc
      · exact Nat.lt_of_lt_of_le (r.lt i c hlt hc) f.nx
    · split at hc
      · rename_i hj; exact r1.lt _ c hj hc
      · cases hc
  · intro i b c hi hc
    rcases back_get hi with ⟨j1, b1, a1, a2, a3⟩ | ⟨b1, a1, a2, a3, a4⟩
    · rw [ρ1 i j1 a3 (live_lt a1)] at hc; exact r1.nf j1 b1 c a1 hc
    · rw [ρ0 i a1 a2] at hc; exact (hsame a2 a3 hc).2
  · intro i b c hi hc
    rcases back_get hi with ⟨j1, b1, a1, a2, a3⟩ | ⟨b1, a1, a2, a3, a4⟩
    · rw [ρ1 i j1 a3 (live_lt a1)] at hc
      obtain ⟨cb, h3, h4⟩ := r1.blk j1 b1 c a1 hc
      exact ⟨cb, h3, by rw [a2]; exact h4.cv cg rfl⟩
    · rw [ρ0 i a1 a2] at hc
      obtain ⟨cb, h3, h4⟩ := r.blk i b1 c a3 hc
      exact ⟨cb, by rw [(hsame a2 a3 hc).1]; exact h3, by rw [a4]; exact h4.cv ck (f.rl c (r.lv a3 hc))⟩
  · intro i b hi hc
    rcases back_get hi with ⟨j1, b1, a1, a2, a3⟩ | ⟨b1, a1, a2, a3, a4⟩
    · rw [ρ1 i j1 a3 (live_lt a1)] at hc
      obtain ⟨esz, h3⟩ := r1.vir j1 b1 a1 hc
      exact ⟨esz, by rw [a2, h3]; rfl⟩
    · rw [ρ0 i a1 a2] at hc
      obtain ⟨esz, h3⟩ := r.vir i b1 a3 hc
      exact ⟨esz, by rw [a4, h3]; rfl⟩
  · intro c hc hno
    refine f.same c hc fun j b hj hcj => ?_
    obtain ⟨i, b0, _, a2, a3⟩ := lv j c ⟨b, hj⟩ hcj
    exact hno i b0 a2 a3
  · intro i hi hl
    refine ⟨by rw [hlen]; omega, ?_⟩
    have : kills (σ.drop k') i = some i := by
      simp only [kills]
      split
      · rename_i d hd
        have := List.all_eq_true.1 hp i (List.mem_of_getElem? (idx_get hd))
        simp at this; omega
      · rfl
    exact (ck.ρ i i hl this).2
  · intro i b c hi hc
    rcases back_get hi with ⟨j1, b1, a1, a2, a3⟩ | ⟨b1, a1, a2, a3, a4⟩
    · rw [ρ1 i j1 a3 (live_lt a1)] at hc
      rcases src j1 b1 c a1 hc with ⟨i', b', d1, d2, d3⟩ | d1
      · exact .inl ⟨i', b', d2, d3⟩
      · exact .inr d1
    · rw [ρ0 i a1 a2] at hc; exact .inl ⟨i, b1, a3, hc⟩
  · intro id row hf
    rcases f.frz id row hf with h0 | h0 | ⟨j, b', h3, h4⟩
    · exact .inl h0
    · exact .inr (.inl h0)
    · obtain ⟨i, b0, _, a2, a3⟩ := lv j id ⟨b', h3⟩ h4
      exact .inr (.inr ⟨i, b0, a2, a3⟩)
/-- a call, with a part of the memory handed over -/
theorem CK_call {d : Option Nat} {g : Nat} {args : List SV} {rest : List AOp} {args0 : List SV} {h0 : SH} {R : SV → SH → Prop} (σ : List Nat) (spec : Ret2 T k' g args0 h0 R) (hn : σ.Nodup) (hσ : ∀ x ∈ σ, x < h.length) (hp : pinsOk k k' σ = true)
    (ha : SV.cvs (idx σ) args = args0) (hh : view σ h = h0) (hk : ∀ v h', R v h' → WO2 T k rest (epu (e.cv (kills (σ.drop k'))) d (v.cv (gback σ h.length))) (back σ k' h h') K) :
    CK T k K e h (some ⟨d, g, args, rest⟩) := by
  subst ha
  subst hh
  intro w ce ch cargs r he hargs
  obtain ⟨n, cv, ch1, w1, v, h1, b1, b2, b3, b4, b5⟩ := spec.run (w.vw σ h.length) cargs ch (r.view hn) (hargs.cv view_cv)
  obtain ⟨c1, c2, c3, c4⟩ := r.back hn b3 b5 hp hσ
  exact ⟨n, cv, ch1, _, _, _, b1, c1, (he.cv c3).put (b4.cv c2) d, c4, hk v h1 b2⟩
end
end Go.Proofs.Ytadbipeachcekaa.Ab
/- The second machine: lists that come to stay; lists that are lent; lists that aren't there yet. -/
namespace Go.Proofs.Ytadbipeachcekaa.Ab
open Go
set_option linter.unusedVariables false
/-! ### for good -/
mutual
def SV.frz (h : SH) (id : Nat) : SV → SV
  | .p v => .p v
  | .ptr d off => if d = id then (match bAt h id with | some (.obj cs) => (match pvs cs with | some ps => .p (.fp ps off) | none => .un) | _ => .un) else .ptr d off
  | .ep esz d j t => if d = id then (match bAt h id with | some (.arr e' els) => (if e' = esz then (match els[j]? with | some el => .p (.fp el t) | none => .un) else .un) | _ => .un) else .ep esz d j t
  | .sl esz d off len cap => if d = id then (match bAt h id with | some (.arr e' els) => if e' = esz ∧ off + len ≤ els.length then .p (.fz esz ((els.drop off).take len)) else .un | _ => .un) else .sl esz d off len cap
  | .so esz d off len => .so esz d off len
  | .mp d => .mp d
  | .fn g a c => .fn g (SV.frzs h id a) (SV.frzs h id c)
  | .agg cs => .agg (SV.frzs h id cs)
  | .tup cs => .tup (SV.frzs h id cs)
  | .alt P v => .alt P (SV.frz h id v)
  | .un => .un
termination_by structural x => x
def SV.frzs (h : SH) (id : Nat) : List SV → List SV
  | [] => []
  | v :: r => SV.frz h id v :: SV.frzs h id r
termination_by structural x => x
end
theorem frzs_map (h : SH) (id : Nat) : ∀ (l : List SV), SV.frzs h id l = l.map (SV.frz h id)
  | [] => rfl
  | v :: r => by rw [SV.frzs, frzs_map h id r]; rfl
def B2.frz (h : SH) (id : Nat) : B2 → B2
  | .obj cs => .obj (SV.frzs h id cs)
  | .arr esz els => .arr esz els
  | .map es => .map (es.map fun x => (x.1.frz h id, x.2.frz h id))
def SE.frz (h : SH) (id : Nat) : SE → SE
  | [] => []
  | (s, v) :: r => (s, v.frz h id) :: SE.frz h id r
def SH.frz (id : Nat) (h : SH) : SH := (h.map (Option.map (B2.frz h id))).set id none
/-- the row of a block, kept -/
def Wd.fz (w : Wd) (o : Option (Nat × List AV)) : Wd :=
  match o with
  | some (c, row) => ⟨w.ρ, up w.fro c (some row), w.rl⟩
  | none => w
section
variable {T : AT} {k : Nat} {h : SH} {e : SE} {w : Wd} {ch : AH}
structure FzOk (h : SH) (id : Nat) (w w' : Wd) (n : Nat) : Prop where
  ρ : w'.ρ = w.ρ
  rl : w'.rl = w.rl
  fro : ∀ i row, w.fro i = some row → w'.fro i = some row
  arr : ∀ esz els c, bAt h id = some (.arr esz els) → w.ρ id = some c → ∃ row, w'.fro c = some row ∧ ElsR w'.fro esz els row 0
  obj : ∀ cs c ps, bAt h id = some (.obj cs) → pvs cs = some ps → w.ρ id = some c → ∃ row, w'.fro c = some row ∧ P2 (RP w'.fro) ps row
  vir : ∀ b, bAt h id = some b → w.ρ id = none → ∃ esz, b = .arr esz []
theorem RS.frz {w' : Wd} {n id : Nat} (f : FzOk h id w w' n) {v : SV} {a : AV} (hr : RS w n v a) : RS w' n (v.frz h id) a := by
  have hle : Le n w w' := ⟨fun _ _ => by rw [f.ρ], f.fro, fun _ _ _ _ => by rw [f.rl]⟩
  induction hr with
  | p h => exact .p (h.mono f.fro)
  | @ptr i off c hi hc =>
    simp only [SV.frz]
    split
    · rename_i he
      subst he
      split
      · rename_i cs hb
        split
        · rename_i ps hps
          obtain ⟨row, h1, h2⟩ := f.obj cs c ps hb hps hc
          refine .p ?_
          have := RP.fp (cs := ps) (t := off) (o := 0) h1 (by rw [h2.1]; omega) (fun k x a hx ha => h2.2 k x a hx (by simpa using ha))
          simpa using this
        · exact .un
      · exact .un
    · exact (RS.ptr hi hc).mono hle (Nat.le_refl _)
  | @ep esz i j t c hi hc =>
    simp only [SV.frz]
    split
    · rename_i he
      subst he
      split
      · rename_i e' els hb
        split
        · rename_i he
          subst he
          split
          · rename_i el hel
            obtain ⟨row, h1, h2⟩ := f.arr _ els c hb hc
            have hsz := h2.2.1 _ _ hel
            have hj := (List.getElem?_eq_some_iff.1 hel).1
            have hm := Nat.mul_le_mul_right e' (Nat.succ_le_of_lt hj)
            rw [Nat.succ_mul] at hm
            have hl := h2.len
            exact .p (.fp h1 (by omega) (fun k x a hx ha => h2.at hel hx ha))
          · exact .un
        · exact .un
      · exact .un
    · exact (RS.ep hi hc).mono hle (Nat.le_refl _)
  | @sl esz i off len cap c ccap lo hi hc he hcap hl hlo hr =>
    simp only [SV.frz]
    split
    · rename_i he'
      subst he'
      split
      · rename_i e' els hb
        split
        · rename_i hcond
          obtain ⟨rfl, hin⟩ := hcond
          obtain ⟨row, h1, h2⟩ := f.arr _ els c hb hc
          have hm := Nat.mul_le_mul_right e' hin
          rw [Nat.add_mul] at hm
          have hlen := h2.len
          refine .p (.fz h1 he (by simp; omega) hl hlo (by omega) (fun j el hj => ?_) (fun j el t x a hj hx ha => ?_))
          · rw [List.getElem?_take] at hj
            split at hj
            · rw [List.getElem?_drop] at hj; exact h2.2.1 _ _ hj
            · cases hj
          · rw [List.getElem?_take] at hj
            split at hj
            · rw [List.getElem?_drop] at hj
              refine h2.at hj hx ?_
              rw [← ha, Nat.add_mul]
            · cases hj
        · exact .un
      · exact .un
    · exact (RS.sl hi hc he hcap hl hlo hr).mono hle (Nat.le_refl _)
  | @slv esz i off cap hi hc hcap =>
    simp only [SV.frz]
    split
    · rename_i he'
      subst he'
      split
      · rename_i e' els hb
        split
        · simp only [List.take_zero]; exact .p (.fz0 _)
        · exact .un
      · exact .un
    · exact (RS.slv hi hc hcap).mono hle (Nat.le_refl _)
  | so hi hc hs => exact (RS.so hi hc hs).mono hle (Nat.le_refl _)
  | mp hi hc => exact (RS.mp hi hc).mono hle (Nat.le_refl _)
  | fn h1 h2 h3 h4 i2 i4 =>
    simp only [SV.frz, frzs_map]
    refine .fn (by simpa using h1) (fun j s q hs hq => ?_) (by simpa using h3) (fun j s q hs hq => ?_)
    · obtain ⟨x, hx, rfl⟩ := get_map hs; exact i2 j x q hx hq
    · obtain ⟨x, hx, rfl⟩ := get_map hs; exact i4 j x q hx hq
  | agg h1 h2 ih =>
    simp only [SV.frz, frzs_map]
    refine .agg (by simpa using h1) (fun j s q hs hq => ?_)
    obtain ⟨x, hx, rfl⟩ := get_map hs; exact ih j x q hx hq
  | tup h1 h2 ih =>
    simp only [SV.frz, frzs_map]
    refine .tup (by simpa using h1) (fun j s q hs hq => ?_)
    obtain ⟨x, hx, rfl⟩ := get_map hs; exact ih j x q hx hq
  | altT hp h ih => exact .altT hp ih
  | altF hp => exact .altF hp
  | un => exact .un
theorem P2.frz {w' : Wd} {n id : Nat} (f : FzOk h id w w' n) {l : List SV} {cl : List AV} (hp : P2 (RS w n) l cl) : P2 (RS w' n) (SV.frzs h id l) cl := by
  rw [frzs_map]; exact P2.map (hp.mono fun _ _ h => h.frz f)
theorem RE.frz {w' : Wd} {n id : Nat} (f : FzOk h id w w' n) {e : SE} {ce : Env} (he : RE w n e ce) : RE w' n (e.frz h id) ce := by
  intro s
  have h1 : ∀ (e : SE), eg (e.frz h id) s = (eg e s).frz h id := fun e => by
    induction e with
    | nil => rfl
    | cons p r ih =>
      obtain ⟨m, v⟩ := p
      simp only [SE.frz, eg]
      split
      · rfl
      · exact ih
  rw [h1]
  exact (he s).frz f
theorem RB.frz {w' : Wd} {n id : Nat} (f : FzOk h id w w' n) {c : Nat} {b : B2} {cb : Blk} (hb : RB w n c b cb) : RB w' n c (b.frz h id) cb := by
  cases hb with
  | obj h1 h2 => exact .obj (by rw [f.rl]; exact h1) (h2.frz f)
  | arr h1 he h2 => exact .arr (by rw [f.rl]; exact h1) he (h2.mono f.fro)
  | map h hb => exact .map (P2.map (h.mono fun x y h => ⟨h.1.frz f, h.2.frz f⟩)) hb
theorem frz_get {id i : Nat} {b : B2} (hb : (SH.frz id h)[i]? = some (some b)) : i ≠ id ∧ ∃ b0, h[i]? = some (some b0) ∧ b = b0.frz h id := by
  rw [SH.frz, List.getElem?_set] at hb
  split at hb
  · split at hb <;> cases hb
  · rename_i hne
    obtain ⟨y, h1, h2⟩ := get_map hb
    cases y with
    | none => simp at h2
    | some b0 => simp at h2; exact ⟨fun e => hne e.symm, b0, h1, h2⟩
/-- a block is given up: what it holds stays -/
theorem frz_world (id : Nat) (hl : (bAt h id).isSome = true) {w : Wd} {ch : AH} (r : RH w h ch) : ∃ w', FzOk h id w w' h.length ∧ RH w' (SH.frz id h) ch ∧ Fr k w h ch w' (SH.frz id h) ch := by
  obtain ⟨b, hb⟩ := Option.isSome_iff_exists.1 hl
  have hbi := bAt_eq hb
  have hlen : (SH.frz id h).length = h.length := by simp [SH.frz]
  -- the world behind
  obtain ⟨w', f, hfr, hnf⟩ : ∃ w', FzOk h id w w' h.length ∧ (∀ i row, w'.fro i = some row → w.fro i = some row ∨ (w.ρ id = some i ∧ ∃ ro, ch.blk i = some (.row row ro))) ∧ True := by
    cases hc : w.ρ id with
    | none =>
      obtain ⟨esz, rfl⟩ := r.vir id b hbi hc
      refine ⟨w, ⟨rfl, rfl, fun _ _ h => h, fun esz els c _ h2 => ?_, fun cs c ps h1 => ?_, fun b h1 h2 => r.vir id b (bAt_eq h1) h2⟩, fun i row h => .inl h, trivial⟩
      · rw [hc] at h2; cases h2
      · rw [hb] at h1; cases h1
    | some c =>
      obtain ⟨cb, h1, h2⟩ := r.blk id b c hbi hc
      have hfc := r.nf id b c hbi hc
      cases h2 with
      | @obj cs ccs q1 q2 =>
        have hmono : ∀ i row, w.fro i = some row → up w.fro c (some ccs) i = some row := fun i row h => by rw [up_ne _ _ (fun e => by subst e; rw [hfc] at h; cases h)]; exact h
        refine ⟨⟨w.ρ, up w.fro c (some ccs), w.rl⟩, ⟨rfl, rfl, hmono, fun esz els c _ => ?_, fun cs' c' ps g1 g2 g3 => ?_, fun b h1 h2 => by rw [hc] at h2; cases h2⟩, fun i row h => ?_, trivial⟩
        · rename_i g; rw [hb] at g; cases g
        · rw [hb] at g1; cases g1
          rw [hc] at g3; cases g3
          refine ⟨ccs, up_same _ _ _, ?_⟩
          obtain rfl := pvs_eq g2
          refine ⟨by have := q2.1; simpa using this, fun j x y hx hy => ?_⟩
          have := q2.2 j (.p x) y (by simp [hx]) hy
          cases this with | p h => exact h.mono hmono
        · by_cases hi : i = c
          · subst hi; rw [show (⟨w.ρ, up w.fro i (some ccs), w.rl⟩ : Wd).fro i = some ccs from up_same _ _ _] at h; cases h; exact .inr ⟨rfl, false, h1⟩
          · exact .inl (by rw [show (⟨w.ρ, up w.fro c (some ccs), w.rl⟩ : Wd).fro i = w.fro i from up_ne _ _ hi] at h; exact h)
      | @arr esz els ccs q1 q2 q3 =>
        have hmono : ∀ i row, w.fro i = some row → up w.fro c (some ccs) i = some row := fun i row h => by rw [up_ne _ _ (fun e => by subst e; rw [hfc] at h; cases h)]; exact h
        refine ⟨⟨w.ρ, up w.fro c (some ccs), w.rl⟩, ⟨rfl, rfl, hmono, fun esz els c' g g' => ?_, fun cs' c' ps g1 g2 g3 => ?_, fun b h1 h2 => by rw [hc] at h2; cases h2⟩, fun i row h => ?_, trivial⟩
        · rw [hb] at g; cases g
          rw [hc] at g'; cases g'
          exact ⟨ccs, up_same _ _ _, q3.mono hmono⟩
        · rw [hb] at g1; cases g1
        · by_cases hi : i = c
          · subst hi; rw [show (⟨w.ρ, up w.fro i (some ccs), w.rl⟩ : Wd).fro i = some ccs from up_same _ _ _] at h; cases h; exact .inr ⟨rfl, false, h1⟩
          · exact .inl (by rw [show (⟨w.ρ, up w.fro c (some ccs), w.rl⟩ : Wd).fro i = w.fro i from up_ne _ _ hi] at h; exact h)
      | map q _ =>
        refine ⟨w, ⟨rfl, rfl, fun _ _ h => h, fun esz els c h1 => ?_, fun cs c ps h1 => ?_, fun b h1 h2 => r.vir id b (bAt_eq h1) h2⟩, fun i row h => .inl h, trivial⟩
        · rw [hb] at h1; cases h1
        · rw [hb] at h1; cases h1
  refine ⟨w', f, ⟨?_, ?_, ?_, ?_, ?_, ?_, r.wf⟩, ⟨Nat.le_refl _, f.fro, fun _ _ => by rw [f.rl], fun _ _ _ => rfl, fun i _ h1 => ⟨by rw [hlen]; exact h1, by rw [f.ρ]⟩, ?_, ?_⟩⟩
  · intro i j bi bj c hi hj hci hcj
    obtain ⟨_, x, a1, _⟩ := frz_get hi
    obtain ⟨_, y, b1, _⟩ := frz_get hj
    rw [f.ρ] at hci hcj
    exact r.inj i j x y c a1 b1 hci hcj
  · intro i c hi hc
    rw [f.ρ] at hc; rw [hlen] at hi
    exact r.lt i c hi hc
  · intro i b' c hi hc
    obtain ⟨hne, x, a1, _⟩ := frz_get hi
    rw [f.ρ] at hc
    cases hf : w'.fro c with
    | none => rfl
    | some row =>
      rcases hfr c row hf with h0 | ⟨h0, _⟩
      · rw [r.nf i x c a1 hc] at h0; cases h0
      · exact (hne (r.inj i id x b c a1 hbi hc h0)).elim
  · intro i row hf
    rcases hfr i row hf with h0 | ⟨h0, h1⟩
    · exact r.fro i row h0
    · exact ⟨r.lv hbi h0, h1⟩
  · intro i b' c hi hc
    obtain ⟨hne, x, a1, rfl⟩ := frz_get hi
    rw [f.ρ] at hc
    obtain ⟨cb, h3, h4⟩ := r.blk i x c a1 hc
    exact ⟨cb, h3, by rw [hlen]; exact h4.frz f⟩
  · intro i b' hi hc
    obtain ⟨hne, x, a1, rfl⟩ := frz_get hi
    rw [f.ρ] at hc
    obtain ⟨esz, rfl⟩ := r.vir i x a1 hc
    exact ⟨esz, rfl⟩
  · intro i b' c hi hc
    obtain ⟨hne, x, a1, _⟩ := frz_get hi
    rw [f.ρ] at hc
    exact .inl ⟨i, x, a1, hc⟩
  · intro i row hf
    rcases hfr i row hf with h0 | ⟨h0, _⟩
    · exact .inl h0
    · exact .inr (.inr ⟨id, b, hbi, h0⟩)
theorem frz_len (id : Nat) : (SH.frz id h).length = h.length := by simp [SH.frz]
theorem Wk.frz (id : Nat) (hl : (bAt h id).isSome = true) : Wk k e h (e.frz h id) (SH.frz id h) := fun w ce ch r he => by
  obtain ⟨w', f, h1, h2⟩ := frz_world (k := k) id hl r
  exact ⟨w', h1, by rw [frz_len]; exact he.frz f, h2⟩
/-! ### not there yet -/
def nilS (s : Nat) (v : SV) : SE → SE
  | [] => []
  | (t, u) :: r => if t = s then (t, v) :: r else (t, u) :: nilS s v r
theorem nilS_get {s : Nat} {v : SV} (t : Nat) : ∀ (e : SE), eg (nilS s v e) t = eg e t ∨ (t = s ∧ eg (nilS s v e) t = v)
  | [] => .inl rfl
  | (m, u) :: r => by
    simp only [nilS]
    split
    · rename_i hm
      subst hm
      simp only [eg]
      split
      · rename_i h; exact .inr ⟨h.symm, rfl⟩
      · exact .inl rfl
    · simp only [eg]
      split
      · exact .inl rfl
      · exact nilS_get t r
/-- nil in a slot is a list without elements -/
theorem Wk.nil (s esz : Nat) (hs : eg e s = .nils) : Wk k e h (nilS s (.sl esz h.length 0 0 none) e) (h ++ [some (.arr esz [])]) := fun w ce ch r he => by
  obtain ⟨r1, r2, r3⟩ := r.virt (k := k) esz
  refine ⟨_, r1, fun t => ?_, r3⟩
  have h0 := (he t).mono r2 (Nat.le_succ _)
  rw [List.length_append]
  rcases nilS_get (v := .sl esz h.length 0 0 none) t e with h1 | ⟨h1, h2⟩
  · rw [h1]; exact h0
  · rw [h2]
    subst h1
    rw [hs] at h0
    generalize eget ce t = z at h0
    cases h0 with | p h0 => cases h0 with | nils => exact .slv (Nat.lt_succ_self _) (up_same _ _ _) (by simp)
/-- nil in a cell -/
theorem Wk.nilc (id off esz : Nat) {cs : List SV} (hb : bAt h id = some (.obj cs)) (hs : cs[off]? = some .nils) : Wk k e h e (h.set id (some (.obj (cs.set off (.sl esz h.length 0 0 none)))) ++ [some (.arr esz [])]) := fun w ce ch r he => by
  obtain ⟨r1, r2, r3⟩ := r.virt (k := k) esz
  have hbi := bAt_eq hb
  have hil := live_lt hbi
  cases hc : w.ρ id with
  | none => obtain ⟨_, h1⟩ := r.vir id _ hbi hc; cases h1
  | some c =>
    obtain ⟨cb, h1, h2⟩ := r.blk id _ c hbi hc
    cases h2 with
    | @obj _ ccs q1 q2 =>
      have hbi' : (h ++ [some (B2.arr esz [])])[id]? = some (some (.obj cs)) := by rw [List.getElem?_append_left hil]; exact hbi
      have hc' : (w.mv h.length none w.rl).ρ id = some c := by rw [r2.ρ id hil]; exact hc
      have hrb : RB (w.mv h.length none w.rl) (h ++ [some (B2.arr esz [])]).length c (.obj (cs.set off (.sl esz h.length 0 0 none))) (.row ccs false) := by
        rw [List.length_append]
        refine .obj q1 ⟨by simpa using q2.1, fun j x y hx hy => ?_⟩
        rw [List.getElem?_set] at hx
        split at hx
        · rename_i he
          subst he
          have := q2.2 off .nils y hs hy
          split at hx
          · cases hx
            cases this with | p this => cases this with | nils => exact .slv (Nat.lt_succ_self _) (up_same _ _ _) (by simp)
          · cases hx
        · exact (q2.2 j x y hx hy).mono r2 (Nat.le_succ _)
      obtain ⟨s1, s2⟩ := r1.set (k := k) hbi' hc' hrb
      have e1 : (h ++ [some (B2.arr esz [])]).set id (some (.obj (cs.set off (.sl esz h.length 0 0 none)))) = h.set id (some (.obj (cs.set off (.sl esz h.length 0 0 none)))) ++ [some (.arr esz [])] := by
        rw [List.set_append_left _ _ hil]
      have e2 : ch.set c (some (.row ccs false)) = ch := by
        cases ch with | mk nx bl =>
        simp only [AH.set]
        congr 1
        funext j
        split
        · rename_i hj; subst hj; exact h1.symm
        · rfl
      rw [e1, e2] at s1 s2
      refine ⟨_, s1, ?_, r3.trans s2⟩
      have := he.mono r2 (Nat.le_succ _)
      simpa using this
end
end Go.Proofs.Ytadbipeachcekaa.Ab
/- The second machine: calls that only read what they are lent. -/
namespace Go.Proofs.Ytadbipeachcekaa.Ab
open Go
set_option linter.unusedVariables false
def PV.flat : PV → Bool
  | .fz _ _ => false
  | .fp _ _ => false
  | _ => true
mutual
def SV.flat : SV → Bool
  | .p v => v.flat
  | .fn _ a c => SV.flats a && SV.flats c
  | .agg cs => SV.flats cs
  | .tup cs => SV.flats cs
  | .alt _ v => v.flat
  | .ptr _ _ => true
  | .ep _ _ _ _ => true
  | .sl _ _ _ _ _ => true
  | .so _ _ _ _ => true
  | .mp _ => true
  | .un => true
termination_by structural x => x
def SV.flats : List SV → Bool
  | [] => true
  | v :: r => SV.flat v && SV.flats r
termination_by structural x => x
end
theorem flats_get : ∀ {l : List SV} {j : Nat} {x : SV}, SV.flats l = true → l[j]? = some x → x.flat = true
  | v :: r, 0, x, h, hx => by simp at hx; subst hx; simp [SV.flats] at h; exact h.1
  | v :: r, j + 1, x, h, hx => by simp at hx; simp [SV.flats] at h; exact flats_get h.2 hx
def B2.flat : B2 → Prop
  | .obj cs => SV.flats cs = true
  | .arr _ els => ∀ el ∈ els, ∀ c ∈ el, PV.flat c = true
  | .map es => ∀ x ∈ es, x.1.flat = true ∧ x.2.flat = true
def SH.flat (h : SH) : Prop := ∀ b, some b ∈ h → b.flat
def SH.cv (f : Nat → Option Nat) (h : SH) : SH := h.map (Option.map (B2.cv f))
def lendA : List Nat → List SV → SH → List SV
  | [], a, _ => SV.cvs (idx []) a
  | i :: r, a, h => lendA r (SV.frzs h i a) (SH.frz i h)
def lendOk : List Nat → SH → Bool
  | [], _ => true
  | i :: r, h => (bAt h i).isSome && lendOk r (SH.frz i h)
section
variable {T : AT} {k k' : Nat} {Q : XT → SE → SH → Prop} {K : SE → SH → Prop} {e : SE} {h : SH}
theorem cv_all {f : Nat → Option Nat} (hf : ∀ i, f i = some i) : ∀ (v : SV), v.cv f = v := by
  have : (∀ v : SV, v.cv f = v) ∧ (∀ l : List SV, SV.cvs f l = l) := by
    refine ⟨fun v => ?_, fun l => ?_⟩
    · exact SV.rec (motive_1 := fun v => v.cv f = v) (motive_2 := fun l => SV.cvs f l = l) (fun v => rfl) (fun id off => by simp [SV.cv, hf]) (fun a b c d => by simp [SV.cv, hf]) (fun a b c d e => by simp [SV.cv, hf]) (fun a b c d => by simp [SV.cv, hf]) (fun a => by simp [SV.cv, hf])
        (fun g a c h1 h2 => by simp [SV.cv, h1, h2]) (fun cs h => by simp [SV.cv, h]) (fun cs h => by simp [SV.cv, h]) (fun P v h => by simp [SV.cv, h]) rfl rfl (fun a b h1 h2 => by simp [SV.cvs, h1, h2]) v
    · exact SV.rec_1 (motive_1 := fun v => v.cv f = v) (motive_2 := fun l => SV.cvs f l = l) (fun v => rfl) (fun id off => by simp [SV.cv, hf]) (fun a b c d => by simp [SV.cv, hf]) (fun a b c d e => by simp [SV.cv, hf]) (fun a b c d => by simp [SV.cv, hf]) (fun a => by simp [SV.cv, hf])
        (fun g a c h1 h2 => by simp [SV.cv, h1, h2]) (fun cs h => by simp [SV.cv, h]) (fun cs h => by simp [SV.cv, h]) (fun P v h => by simp [SV.cv, h]) rfl rfl (fun a b h1 h2 => by simp [SV.cvs, h1, h2]) l
  exact this.1
theorem cve_all {f : Nat → Option Nat} (hf : ∀ i, f i = some i) : ∀ (e : SE), e.cv f = e
  | [] => rfl
  | (s, v) :: r => by simp [SE.cv, cv_all hf, cve_all hf r]
theorem cvb_all {f : Nat → Option Nat} (hf : ∀ i, f i = some i) (b : B2) : b.cv f = b := by
  cases b with
  | obj cs => simp only [B2.cv, cvs_map, funext (cv_all hf)]; congr 1; exact List.map_id' cs
  | arr => rfl
  | map es => simp only [B2.cv, cv_all hf]; congr 1; exact List.map_id' es
theorem kills_nil (i : Nat) : kills [] i = some i := rfl
theorem back_nil (h h' : SH) : back [] k h h' = h ++ SH.cv (gback [] h.length) h' := by
  have h1 : ∀ (h : SH) (i n : Nat), back1 [] k n h' i h = h := fun h => by
    induction h with
    | nil => intro i n; rfl
    | cons b r ih =>
      intro i n
      simp only [back1, idx, List.drop_nil]
      rw [ih]
      congr 1
      cases b with
      | none => rfl
      | some b => simp [cvb_all kills_nil]
  rw [back, h1]
  rfl
/-- a call that is handed nothing -/
theorem CK_pure {d : Option Nat} {g : Nat} {args : List SV} {rest : List AOp} {args0 : List SV} {R : SV → SH → Prop} (spec : Ret2 T k' g args0 [] R) (ha : SV.cvs (idx []) args = args0)
    (hk : ∀ v h', R v h' → WO2 T k rest (epu e d (v.cv (gback [] h.length))) (h ++ SH.cv (gback [] h.length) h') K) : CK T k K e h (some ⟨d, g, args, rest⟩) := by
  refine CK_call [] spec .nil (by simp) (by simp [pinsOk]) ha rfl fun v h' hr => ?_
  have := hk v h' hr
  rw [back_nil, List.drop_nil, cve_all kills_nil]
  exact this
theorem P2.of_bind {w : Wd} {n : Nat} : ∀ {l : List SV} {cl : List AV} {j : Nat}, l.length = cl.length → RE w n (bindS j l) (bindA j cl) → P2 (RS w n) l cl
  | [], [], j, _, _ => .nil
  | v :: l, c :: cl, j, hl, he => by
    have h0 := he j
    simp only [bindS, bindA, eg, eget, if_true] at h0
    refine .cons h0 (P2.of_bind (j := j + 1) (by simpa using hl) fun s => ?_)
    have := he s
    simp only [bindS, bindA, eg, eget] at this
    split at this
    · rename_i hs
      subst hs
      have h1 : ∀ (l : List SV) (i : Nat), j < i → eg (bindS i l) j = .un := fun l => by
        induction l with
        | nil => intro i _; rfl
        | cons a l ih => intro i hi; simp only [bindS, eg]; rw [if_neg (by omega)]; exact ih _ (by omega)
      rw [h1 _ _ (Nat.lt_succ_self _)]
      exact .un
    · exact this
theorem lend_ok : ∀ {ids : List Nat} {args : List SV} {cargs : List AV} {h : SH} {w : Wd} {ch : AH}, RH w h ch → P2 (RS w h.length) args cargs → lendOk ids h = true →
    ∃ w0, RH w0 [] ch ∧ P2 (RS w0 0) (lendA ids args h) cargs ∧ Fr 0 w h ch w0 [] ch
  | [], args, cargs, h, w, ch, r, hp, _ => by
    have hv := Wk.view (k := 0) (e := []) (h := h) [] .nil rfl w [] ch r (fun s => .un)
    refine ⟨w.vw [] h.length, r.view .nil, hp.cv (view_cv (σ := [])), ?_⟩
    refine ⟨Nat.le_refl _, fun _ _ h => h, fun _ _ => rfl, fun _ _ _ => rfl, fun i hi => by omega, fun i b c hi => by simp at hi, fun _ _ h => .inl h⟩
  | i :: r, args, cargs, h, w, ch, hr, hp, hok => by
    simp only [lendOk, Bool.and_eq_true] at hok
    obtain ⟨w1, a1, a2, a3⟩ := Wk.frz (k := 0) (e := bindS 0 args) i hok.1 w (bindA 0 cargs) ch hr (bindS_ok hp)
    have e1 : ∀ (l : List SV) (j : Nat), (bindS j l).frz h i = bindS j (SV.frzs h i l) := fun l => by
      induction l with
      | nil => intro j; rfl
      | cons v l ih => intro j; simp only [bindS, SE.frz, SV.frzs, ih]
    rw [e1] at a2
    have hp1 : P2 (RS w1 (SH.frz i h).length) (SV.frzs h i args) cargs := P2.of_bind (by rw [frzs_map, List.length_map]; exact hp.1) a2
    obtain ⟨w0, b1, b2, b3⟩ := lend_ok (ids := r) a1 hp1 hok.2
    exact ⟨w0, b1, b2, a3.trans b3⟩
theorem RP.flat {fro fro' : Fro} {v : PV} {a : AV} (h : RP fro v a) (hf : v.flat = true) : RP fro' v a := by
  cases h with
  | fz0 => simp [PV.flat] at hf
  | fz1 => simp [PV.flat] at hf
  | fz => simp [PV.flat] at hf
  | fp => simp [PV.flat] at hf
  | _ => constructor
theorem RS.flat {w w' : Wd} {n n' : Nat} {f : Nat → Option Nat} (hρ : ∀ i j, i < n → f i = some j → j < n' ∧ w'.ρ j = w.ρ i) (hrl : ∀ i c, i < n → w.ρ i = some c → w'.rl c = w.rl c) {v : SV} {a : AV} (h : RS w n v a) (hf : v.flat = true) : RS w' n' (v.cv f) a := by
  induction h with
  | p h => exact .p (h.flat hf)
  | ptr hi h =>
    simp only [SV.cv]
    split
    · rename_i j hj; have := hρ _ _ hi hj; exact .ptr this.1 (this.2.trans h)
    · exact .un
  | ep hi h =>
    simp only [SV.cv]
    split
    · rename_i j hj; have := hρ _ _ hi hj; exact .ep this.1 (this.2.trans h)
    · exact .un
  | sl hi h he hcap hl hlo hr =>
    simp only [SV.cv]
    split
    · rename_i j hj; have := hρ _ _ hi hj; exact .sl this.1 (this.2.trans h) he hcap hl hlo (by rw [hrl _ _ hi h]; exact hr)
    · exact .un
  | slv hi h hcap =>
    simp only [SV.cv]
    split
    · rename_i j hj; have := hρ _ _ hi hj; exact .slv this.1 (this.2.trans h) hcap
    · exact .un
  | so hi h hs =>
    simp only [SV.cv]
    split
    · rename_i j hj; have := hρ _ _ hi hj; exact .so this.1 (this.2.trans h) hs
    · exact .un
  | mp hi h =>
    simp only [SV.cv]
    split
    · rename_i j hj; have := hρ _ _ hi hj; exact .mp this.1 (this.2.trans h)
    · exact .un
  | fn h1 h2 h3 h4 i2 i4 =>
    simp only [SV.flat, Bool.and_eq_true] at hf
    simp only [SV.cv, cvs_map]
    refine .fn (by simpa using h1) (fun j s q hs hq => ?_) (by simpa using h3) (fun j s q hs hq => ?_)
    · obtain ⟨x, hx, rfl⟩ := get_map hs; exact i2 j x q hx hq (flats_get hf.1 hx)
    · obtain ⟨x, hx, rfl⟩ := get_map hs; exact i4 j x q hx hq (flats_get hf.2 hx)
  | agg h1 h2 ih =>
    simp only [SV.flat] at hf
    simp only [SV.cv, cvs_map]
    refine .agg (by simpa using h1) (fun j s q hs hq => ?_)
    obtain ⟨x, hx, rfl⟩ := get_map hs; exact ih j x q hx hq (flats_get hf hx)
  | tup h1 h2 ih =>
    simp only [SV.flat] at hf
    simp only [SV.cv, cvs_map]
    refine .tup (by simpa using h1) (fun j s q hs hq => ?_)
    obtain ⟨x, hx, rfl⟩ := get_map hs; exact ih j x q hx hq (flats_get hf hx)
  | altT hp h ih => exact .altT hp (ih hf)
  | altF hp => exact .altF hp
  | un => exact .un
open Classical in
/-- the world behind a call that was lent something: what was lent is the caller's again -/
noncomputable def Wd.lent (w w1 : Wd) (h : SH) (n1 : Nat) : Wd :=
  ⟨fun i => if i < h.length then w.ρ i else (if i - h.length < n1 then w1.ρ (i - h.length) else none), fun c => if ∃ (j : Nat) (b : B2), h[j]? = some (some b) ∧ w.ρ j = some c then none else w1.fro c, w1.rl⟩
/-- a call that reads what it is lent -/
theorem CK_lend {d : Option Nat} {g : Nat} {args : List SV} {rest : List AOp} {args0 : List SV} {R : SV → SH → Prop} (ids : List Nat) (spec : Ret2 T k' g args0 [] R) (hok : lendOk ids h = true) (ha : lendA ids args h = args0)
    (hk : ∀ v h', R v h' → v.flat = true ∧ h'.flat ∧ WO2 T k rest (epu e d (v.cv (gback [] h.length))) (h ++ SH.cv (gback [] h.length) h') K) : CK T k K e h (some ⟨d, g, args, rest⟩) := by
  subst ha
  intro w ce ch cargs r he hargs
  obtain ⟨w0, r0, hp0, f0⟩ := lend_ok r hargs hok
  obtain ⟨n, cv, ch1, w1, v, h1, b1, b2, b3, b4, b5⟩ := spec.run w0 cargs ch r0 hp0
  obtain ⟨hfv, hfh, hk⟩ := hk v h1 b2
  have hsame : ∀ c, c < ch.next → ch1.blk c = ch.blk c := fun c hc => b5.same c hc fun i b hi => by simp at hi
  have hrl : ∀ c, c < ch.next → w1.rl c = w.rl c := fun c hc => (b5.rl c hc).trans (f0.rl c hc)
  have hρ0 : ∀ i, i < h.length → (w.lent w1 h h1.length).ρ i = w.ρ i := fun i hi => by simp only [Wd.lent]; rw [if_pos hi]
  have hρ1 : ∀ i, i < h1.length → (w.lent w1 h h1.length).ρ (h.length + i) = w1.ρ i := fun i hi => by
    simp only [Wd.lent]; rw [if_neg (by omega), show h.length + i - h.length = i by omega, if_pos hi]
  have hlive : ∀ {i : Nat} {b : B2} {c : Nat}, h1[i]? = some (some b) → w1.ρ i = some c → ch.next ≤ c := fun {i b c} hi hc => by
    rcases b5.src i b c hi hc with ⟨j, b', hj, _⟩ | h0
    · simp at hj
    · exact h0
  have hfro : ∀ id row, w.fro id = some row → (w.lent w1 h h1.length).fro id = some row := fun id row hf => by
    simp only [Wd.lent]
    rw [if_neg]
    · exact b5.fro _ _ (f0.fro _ _ hf)
    · rintro ⟨j, b, hj, hc⟩
      rw [r.nf j b id hj hc] at hf; cases hf
  have hle : Le h.length w (w.lent w1 h h1.length) := ⟨hρ0, hfro, fun i c hi hc => hrl c (r.lt i c hi hc)⟩
  have hlen : (h ++ SH.cv (gback [] h.length) h1).length = h.length + h1.length := by simp [SH.cv]
  have hgρ : ∀ i j, i < h1.length → gback [] h.length i = some j → j < (h ++ SH.cv (gback [] h.length) h1).length ∧ (w.lent w1 h h1.length).ρ j = w1.ρ i := fun i j hi hj => by
    simp [gback] at hj
    subst hj
    exact ⟨by rw [hlen]; omega, hρ1 i hi⟩
  have hgrl : ∀ i c, i < h1.length → w1.ρ i = some c → (w.lent w1 h h1.length).rl c = w1.rl c := fun _ _ _ _ => rfl
  have hget : ∀ {i : Nat} {b : B2}, (h ++ SH.cv (gback [] h.length) h1)[i]? = some (some b) → (i < h.length ∧ h[i]? = some (some b)) ∨ (∃ j b0, i = h.length + j ∧ h1[j]? = some (some b0) ∧ b = b0.cv (gback [] h.length)) := fun {i b} hb => by
    by_cases hi : i < h.length
    · rw [List.getElem?_append_left hi] at hb; exact .inl ⟨hi, hb⟩
    · rw [List.getElem?_append_right (by omega)] at hb
      obtain ⟨y, h2, h3⟩ := get_map hb
      cases y with
      | none => simp at h3
      | some b0 => simp at h3; exact .inr ⟨_, b0, by omega, h2, h3⟩
  refine ⟨n, cv, ch1, w.lent w1 h h1.length, _, _, b1, ⟨?_, ?_, ?_, ?_, ?_, ?_, b3.wf⟩, ((he.mono hle (by rw [hlen]; omega)).put (b4.flat hgρ hgrl hfv) d), ⟨b5.nx, hfro, hrl, fun c hc _ => hsame c hc, fun i _ hi => ⟨by rw [hlen]; omega, hρ0 i hi⟩, ?_, ?_⟩, hk⟩
  · intro i j bi bj c hi hj hci hcj
    rcases hget hi with ⟨a1, a2⟩ | ⟨x, b0, rfl, a2, a3⟩ <;> rcases hget hj with ⟨c1, c2⟩ | ⟨y, b0', rfl, c2, c3⟩
    · rw [hρ0 _ a1] at hci; rw [hρ0 _ c1] at hcj; exact r.inj _ _ _ _ c a2 c2 hci hcj
    · rw [hρ0 _ a1] at hci; rw [hρ1 _ (live_lt c2)] at hcj
      have := hlive c2 hcj; have := r.lv a2 hci; omega
    · rw [hρ0 _ c1] at hcj; rw [hρ1 _ (live_lt a2)] at hci
      have := hlive a2 hci; have := r.lv c2 hcj; omega
    · rw [hρ1 _ (live_lt a2)] at hci; rw [hρ1 _ (live_lt c2)] at hcj
      rw [b3.inj _ _ _ _ c a2 c2 hci hcj]
  · intro i c hi hc
    simp only [Wd.lent] at hc
    split at hc
    · rename_i hlt; exact Nat.lt_of_lt_of_le (r.lt i c hlt hc) b5.nx
    · split at hc
      · rename_i hlt; exact b3.lt _ c hlt hc
      · cases hc
  · intro i b c hi hc
    rcases hget hi with ⟨a1, a2⟩ | ⟨x, b0, rfl, a2, a3⟩
    · rw [hρ0 _ a1] at hc
      simp only [Wd.lent]
      rw [if_pos ⟨i, b, a2, hc⟩]
    · rw [hρ1 _ (live_lt a2)] at hc
      simp only [Wd.lent]
      split
      · rfl
      · exact b3.nf x b0 c a2 hc
  · intro id row hf
    simp only [Wd.lent] at hf
    split at hf
    · cases hf
    · exact b3.fro id row hf
  · intro i b c hi hc
    rcases hget hi with ⟨a1, a2⟩ | ⟨x, b0, rfl, a2, rfl⟩
    · rw [hρ0 _ a1] at hc
      obtain ⟨cb, h3, h4⟩ := r.blk i b c a2 hc
      have hcl := r.lv a2 hc
      exact ⟨cb, by rw [hsame c hcl]; exact h3, h4.mono hle (by rw [hlen]; omega) (hrl c hcl)⟩
    · rw [hρ1 _ (live_lt a2)] at hc
      obtain ⟨cb, h3, h4⟩ := b3.blk x b0 c a2 hc
      refine ⟨cb, h3, ?_⟩
      have hfb := hfh b0 (List.mem_of_getElem? a2)
      cases h4 with
      | @obj cs ccs q1 q2 =>
        refine .obj q1 ?_
        rw [cvs_map]
        refine P2.map ⟨q2.1, fun j s a hs ha => (q2.2 j s a hs ha).flat hgρ hgrl (flats_get hfb hs)⟩
      | @arr esz els ccs q1 he q2 =>
        refine .arr q1 he ⟨q2.1, q2.2.1, fun j el t c' a hj ht ha => (q2.2.2 j el t c' a hj ht ha).flat (hfb el (List.mem_of_getElem? hj) c' (List.mem_of_getElem? ht))⟩
      | @map es ces cl q qb =>
        refine .map (P2.map ⟨q.1, fun j s a hs ha => ?_⟩) qb
        have := q.2 j s a hs ha
        have hf := hfb s (List.mem_of_getElem? hs)
        exact ⟨this.1.flat hgρ hgrl hf.1, this.2.flat hgρ hgrl hf.2⟩
  · intro i b hi hc
    rcases hget hi with ⟨a1, a2⟩ | ⟨x, b0, rfl, a2, rfl⟩
    · rw [hρ0 _ a1] at hc; exact r.vir i b a2 hc
    · rw [hρ1 _ (live_lt a2)] at hc
      obtain ⟨esz, h3⟩ := b3.vir x b0 a2 hc
      exact ⟨esz, by rw [h3]; rfl⟩
  · intro i b c hi hc
    rcases hget hi with ⟨a1, a2⟩ | ⟨x, b0, rfl, a2, rfl⟩
    · rw [hρ0 _ a1] at hc; exact .inl ⟨i, b, a2, hc⟩
    · rw [hρ1 _ (live_lt a2)] at hc; exact .inr (hlive a2 hc)
  · intro id row hf
    simp only [Wd.lent] at hf
    split at hf
    · cases hf
    · rename_i hno
      rcases b5.frz id row hf with h0 | h0 | ⟨j, b', hj, _⟩
      · rcases f0.frz id row h0 with g0 | g0 | ⟨j, b', hj, hc⟩
        · exact .inl g0
        · exact .inr (.inl g0)
        · exact (hno ⟨j, b', hj, hc⟩).elim
      · exact .inr (.inl h0)
      · simp at hj
/-! ### less is known of a row -/
theorem Wk.cap (s : Nat) {esz id off len : Nat} {cap : Option Nat} (hs : eg e s = .sl esz id off len cap) : Wk k e h (nilS s (.sl esz id off len none) e) h := fun w ce ch r he => by
  refine ⟨w, r, fun t => ?_, .refl _ _ _ _⟩
  rcases nilS_get (v := .sl esz id off len none) t e with h1 | ⟨h1, h2⟩
  · rw [h1]; exact he t
  · rw [h2]
    have h0 := he t
    rw [h1, hs] at h0
    rw [h1]
    generalize eget ce s = z at h0
    cases h0 with
    | sl hi h he hc hl hlo hr => exact .sl hi h he (by simp) hl hlo hr
    | slv hi h hc => exact .slv hi h (by simp)
theorem Wk.setB (id : Nat) {b b' : B2} (hb : bAt h id = some b) (hbb : ∀ w c cb, RB w h.length c b cb → RB w h.length c b' cb) (hv : ∀ esz, b = .arr esz [] → b' = .arr esz []) : Wk k e h e (h.set id (some b')) := fun w ce ch r he => by
  have hbi := bAt_eq hb
  have hil := live_lt hbi
  cases hc : w.ρ id with
  | none =>
    obtain ⟨esz, h1⟩ := r.vir id _ hbi hc
    have h2 := hv esz h1
    have e1 : h.set id (some b') = h := by
      apply List.ext_getElem?
      intro i
      rw [List.getElem?_set]
      split
      · rename_i hi; subst hi; rw [hbi, h1, h2]; (try simp [hil])
      · rfl
    rw [e1]
    exact ⟨w, r, he, .refl _ _ _ _⟩
  | some c =>
    obtain ⟨cb, h1, h2⟩ := r.blk id _ c hbi hc
    obtain ⟨s1, s2⟩ := r.set (k := k) hbi hc (hbb w c cb h2)
    have e2 : ch.set c (some cb) = ch := by
      cases ch with | mk nx bl =>
      simp only [AH.set]
      congr 1
      funext j
      split
      · rename_i hj; subst hj; exact h1.symm
      · rfl
    rw [e2] at s1 s2
    exact ⟨w, s1, by simpa using he, s2⟩
theorem Wk.row (id m : Nat) {esz : Nat} {els : List (List PV)} (hb : bAt h id = some (.arr esz els)) : Wk k e h e (h.set id (some (.arr esz (els.take m)))) :=
  Wk.setB id hb (fun w c cb h => by cases h with | arr h1 he h2 => exact .arr h1 he (h2.take m)) (fun esz' h => by cases h; simp)
theorem Wk.capc (id off : Nat) {cs : List SV} {esz d o len : Nat} {cap : Option Nat} (hb : bAt h id = some (.obj cs)) (hs : cs[off]? = some (.sl esz d o len cap)) : Wk k e h e (h.set id (some (.obj (cs.set off (.sl esz d o len none))))) :=
  Wk.setB id hb (fun w c cb h => by
    cases h with
    | @obj _ ccs h1 h2 =>
      refine .obj h1 ⟨by simpa using h2.1, fun j x y hx hy => ?_⟩
      rw [List.getElem?_set] at hx
      split at hx
      · rename_i he
        subst he
        split at hx
        · cases hx
          have := h2.2 off _ y hs hy
          cases this with
          | sl hi h he hc hl hlo hr => exact .sl hi h he (by simp) hl hlo hr
          | slv hi h hc => exact .slv hi h (by simp)
        · cases hx
      · exact h2.2 j x y hx hy) (fun esz' h => by cases h)
/-- nil in a slot is an empty list that stays -/
theorem Wk.nilf (s esz : Nat) (hs : eg e s = .nils) : Wk k e h (nilS s (.fz esz []) e) h := fun w ce ch r he => by
  refine ⟨w, r, fun t => ?_, .refl _ _ _ _⟩
  rcases nilS_get (v := .fz esz []) t e with h1 | ⟨h1, h2⟩
  · rw [h1]; exact he t
  · rw [h2]
    have h0 := he t
    rw [h1, hs] at h0
    rw [h1]
    generalize eget ce s = z at h0
    cases h0 with | p h0 => cases h0 with | nils => exact .p (.fz0 _)
end
end Go.Proofs.Ytadbipeachcekaa.Ab
/- The second machine: small helps. -/
namespace Go.Proofs.Ytadbipeachcekaa.Ab
open Go
set_option linter.unusedVariables false
section
variable {T : AT} {k : Nat} {Q : XT → SE → SH → Prop} {K : SE → SH → Prop} {e e' : SE} {h h' : SH}
theorem map_take_all {α β : Type} (f : α → β) (l : List α) : (l.map f).take l.length = l.map f := List.take_of_length_le (by simp)
theorem map_drop_all {α β : Type} (f : α → β) (l : List α) : (l.map f).drop l.length = [] := List.drop_eq_nil_of_le (by simp)
theorem wi (x : Int) (h0 : -9223372036854775808 ≤ x) (h1 : x ≤ 9223372036854775807) : IntKind.i64.wrap x = x := by
  rw [IntKind.wrap_i64]; omega
theorem wS {j : Nat} (h : j < 9223372036854775807) : IntKind.i64.wrap ((j : Int) + 1) = ((j + 1 : Nat) : Int) := by
  rw [wi _ (by omega) (by omega)]; omega
theorem u8nat (k : Nat) : UInt8.ofInt (k : Int) = UInt8.ofNat k := by
  apply UInt8.toNat_inj.1
  simp [UInt8.ofInt]; omega
/-- one byte, as it is stored -/
theorem wrap8 (n : Int) : IntKind.u8.wrap n = ((UInt8.ofInt n).toNat : Int) := by
  simp [IntKind.wrap, IntKind.bits, IntKind.signed, UInt8.ofInt]
  omega
/-- cells of one number, of one byte -/
def cI (x : Int) : List PV := [.i .i64 x]
def c8 (x : UInt8) : List PV := [.i .u8 x.toNat]
def c16 (x : Nat) : List PV := [.i .u16 x]
theorem bytes2_c8 (l : List UInt8) : bytes2 (l.map c8) = some l := by
  induction l with
  | nil => rfl
  | cons c l ih => simp only [List.map_cons, c8, bytes2, ih]; simp
theorem W2.wview {c : AC} (σ : List Nat) (hn : σ.Nodup) (hp : pinOk k σ = true) (he : SE.cv (idx σ) e = e') (hh : view σ h = h') (hw : W2 T k c e' h' Q) : W2 T k c e h Q := by
  subst he; subst hh; exact W2.weak (Wk.view σ hn hp) hw
theorem W2_runv {ops : List AOp} {kp : List Nat} {e1 : SE} {h1 : SH} (hr : runK2 ops kp e h = some (e1, h1)) (σ : List Nat) (hn : σ.Nodup) (hp : pinOk k σ = true) (he : SE.cv (idx σ) e1 = e') (hh : view σ h1 = h') (hq : Q .nrm e' h') : W2 T k (.reg ops kp) e h Q := by
  subst he; subst hh; exact W2_runw hr (Wk.view σ hn hp) hq
theorem W2.wnil {c : AC} (s esz : Nat) (hs : eg e s = .nils) (he : nilS s (.sl esz h.length 0 0 none) e = e') (hh : h ++ [some (.arr esz [])] = h') (hw : W2 T k c e' h' Q) : W2 T k c e h Q := by
  subst he; subst hh; exact W2.weak (Wk.nil s esz hs) hw
theorem W2.wfrz {c : AC} (id : Nat) (hl : (bAt h id).isSome = true) (he : SE.frz h id e = e') (hh : SH.frz id h = h') (hw : W2 T k c e' h' Q) : W2 T k c e h Q := by
  subst he; subst hh; exact W2.weak (Wk.frz id hl) hw
theorem W2_call {ops : List AOp} {kp : List Nat} {e1 : SE} {h1 : SH} {d : Option Nat} {g : Nat} {args : List SV} {rest : List AOp} (hr : run2 ops e h = some (e1, h1, some ⟨d, g, args, rest⟩))
    (hk : CK T k (fun e h => Q .nrm (kp.map fun s => (s, eg e s)) h) e1 h1 (some ⟨d, g, args, rest⟩)) : W2 T k (.reg ops kp) e h Q := W2_reg (run2_sound hr hk)
theorem W2_calld {ops : List AOp} {kp : List Nat} {e1 : SE} {h1 : SH} {d : Option Nat} {g : Nat} {args : List SV} {rest : List AOp} (hr : run2 ops e h = some (e1, h1, some ⟨d, g, args, rest⟩))
    (hk : CK T k (fun e h => Q .nrm (kp.map fun s => (s, eg e s)) h) e1 h1 (some ⟨d, g, args, rest⟩)) : W2 T k (.regd ops [] kp) e h Q := W2_regd (run2_sound hr hk)
theorem WO2_call {l : List AOp} {e1 : SE} {h1 : SH} {d : Option Nat} {g : Nat} {args : List SV} {rest : List AOp} (hr : run2 l e h = some (e1, h1, some ⟨d, g, args, rest⟩)) (hk : CK T k K e1 h1 (some ⟨d, g, args, rest⟩)) : WO2 T k l e h K := run2_sound hr hk
/-- a loop: what is known behind a round may be told otherwise -/
theorem W2_loopv {b : AC} (I : Nat → SE → SH → Prop) (m : Nat) (h0 : I m e h) (hb : ∀ m e h, I m e h → W2 T k b e h (thn2 (fun e' h' => ∃ σ : List Nat, σ.Nodup ∧ pinOk k σ = true ∧ ∃ m', m' < m ∧ I m' (SE.cv (idx σ) e') (view σ h')) Q)) : W2 T k (.loop b) e h Q := by
  refine W2_loop I m h0 fun m e h hi => (hb m e h hi).post fun t e h hq => ?_
  cases t with
  | nrm =>
    obtain ⟨σ, h1, h2, h3⟩ := hq
    exact ⟨_, _, Wk.view σ h1 h2, h3⟩
  | ret => exact ⟨e, h, .refl, hq⟩
  | ex i => exact ⟨e, h, .refl, hq⟩
/-- a function of the table: its result may be told otherwise -/
theorem Ret2_fnv {f : Nat} {F : AFun} {np : Nat} {res : List RV} {body : AC} (hf : T f = some (.fn F)) (hF : F = ⟨np, res, body⟩) {args : List SV} {R : SV → SH → Prop} (hn : args.length = np)
    (hw : W2 T k body (bindS 0 args) h fun t e' h' => (t = .nrm ∨ t = .ret) ∧ ∃ vs v, aress2 res e' h' = some vs ∧ tie2 vs = some v ∧ ∃ σ : List Nat, σ.Nodup ∧ pinOk k σ = true ∧ R (v.cv (idx σ)) (view σ h')) : Ret2 T k f args h R := by
  have h1 : Ret2 T k f args h fun v h' => ∃ σ : List Nat, σ.Nodup ∧ pinOk k σ = true ∧ R (v.cv (idx σ)) (view σ h') := Ret2_fn hf hF hn hw
  refine ⟨fun w ca ch r1 r2 => ?_⟩
  obtain ⟨n, cv, ch', w', v, h', a1, a2, a3, a4, a5⟩ := h1.run w ca ch r1 r2
  obtain ⟨σ, b1, b2, b3⟩ := a2
  obtain ⟨w2, c1, c2, c3⟩ := Wk.view (k := k) (e := [(0, v)]) σ b1 b2 w' [(0, cv)] ch' a3 (fun s => by
    simp only [eg, eget]
    split
    · exact a4
    · exact .un)
  have hv := c2 0
  simp only [SE.cv, eg, eget, if_true] at hv
  exact ⟨n, cv, ch', w2, _, _, a1, b3, c1, hv, a5.trans c3⟩
end
end Go.Proofs.Ytadbipeachcekaa.Ab
/- The second machine: operations that are done only where something holds, without a look at both cases. -/
namespace Go.Proofs.Ytadbipeachcekaa.Ab
open Go
set_option linter.unusedVariables false
def und (P : List Bool) : SV → SV
  | .alt Q v => if Q.isPrefixOf P = true then v else .alt Q v
  | .p v => .p v
  | .ptr id off => .ptr id off
  | .ep a b c d => .ep a b c d
  | .sl a b c d e => .sl a b c d e
  | .so a b c d => .so a b c d
  | .mp id => .mp id
  | .fn f a c => .fn f a c
  | .agg cs => .agg cs
  | .tup vs => .tup vs
  | .un => .un
def SE.und (P : List Bool) : SE → SE
  | [] => []
  | (s, v) :: r => (s, Ab.und P v) :: SE.und P r
theorem eg_und (P : List Bool) : ∀ (e : SE) (s : Nat), eg (SE.und P e) s = und P (eg e s)
  | [], s => rfl
  | (m, v) :: r, s => by
    simp only [SE.und, eg]
    split
    · rfl
    · exact eg_und P r s
def gP (w : Bool) : SV → Option (List Bool)
  | .p (.b y) => some [if w then y else !y]
  | .alt P (.p (.b y)) => some (P ++ [if w then y else !y])
  | .tup [] => some [false]
  | .alt P _ => if P.all id = true then none else some P
  | _ => none
def guardP (e : SE) : Option (Nat × Bool) → Option (List Bool)
  | none => some []
  | some (s, w) => gP w (eg e s)
def pickB (y a b : Bool) : Bool := if y then a else b
theorem pickB_t (y b : Bool) : pickB y true b = (y || b) := by cases y <;> rfl
theorem pickB_f (y a : Bool) : pickB y a false = (y && a) := by cases y <;> rfl
def pickV (P : List Bool) (e : SE) (c a b : AX) : Option SV :=
  match und P (evs e c) with
  | .p (.b y) =>
    match und (P ++ [y]) (evs e a), und (P ++ [!y]) (evs e b) with
    | .p (.b va), .p (.b vb) => some (.p (.b (pickB y va vb)))
    | x, z => (match y with | true => some x | false => some z)
  | _ => none
def stepA (P : List Bool) (o : AO) (e : SE) (h : SH) : Option (SV × SH) :=
  match o with
  | .pick c a b => ph h (pickV P e c a b)
  | o => aop2 o (SE.und P e) h
/-- where a run is: on its way, at a call, or lost -/
inductive St2 where
  | go (e : SE) (h : SH)
  | stop (e : SE) (h : SH) (s : Stop2)
  | bad
/-- one operation; where it isn't told whether it is wanted, its value is told for where it is -/
def stpA (s : St2) (op : AOp) : St2 :=
  match s with
  | .bad => .bad
  | .stop e h s => .stop e h ⟨s.d, s.f, s.args, s.rest ++ [op]⟩
  | .go e h =>
    match guardP e op.g with
    | none => .bad
    | some [] =>
      match nxt2 op.o e with
      | .call f args => .stop e h ⟨op.d, f, args, []⟩
      | .go =>
        match stepA [] op.o e h with
        | some (v, h') => .go (epu e op.d v) h'
        | none => .bad
      | .bad => .bad
    | some (c :: P) =>
      if quietOp op.o = true then
        match stepA (c :: P) op.o e h with
        | some (v, _) => .go (epu e op.d (.alt (c :: P) v)) h
        | none => if (c :: P).all id = true then .bad else .go (epu e op.d (.alt (c :: P) .un)) h
      else
        match (c :: P).all id with
        | true =>
          match nxt2 op.o (SE.und (c :: P) e) with
          | .call f args => .stop e h ⟨op.d, f, args, []⟩
          | .go =>
            match aop2 op.o (SE.und (c :: P) e) h with
            | some (v, h') => .go (epu e op.d v) h'
            | none => .bad
          | .bad => .bad
        | false => .go (epu e op.d (.tup [])) h
/-- one operation, where it is told whether it is wanted -/
def stpL (s : St2) (op : AOp) : St2 :=
  match s with
  | .bad => .bad
  | .stop e h s => .stop e h ⟨s.d, s.f, s.args, s.rest ++ [op]⟩
  | .go e h =>
    match guarded2 e op.g with
    | some true =>
      match nxt2 op.o e with
      | .call f args => .stop e h ⟨op.d, f, args, []⟩
      | .go =>
        match aop2 op.o e h with
        | some (v, h') => .go (epu e op.d v) h'
        | none => .bad
      | .bad => .bad
    | some false => .go (epu e op.d (.tup [])) h
    | none => .bad
def endS : St2 → Option (SE × SH × Option Stop2)
  | .go e h => some (e, h, none)
  | .stop e h s => some (e, h, some s)
  | .bad => none
def run2a (l : List AOp) (e : SE) (h : SH) : Option (SE × SH × Option Stop2) := endS (l.foldl stpA (.go e h))
def run2l (l : List AOp) (e : SE) (h : SH) : Option (SE × SH × Option Stop2) := endS (l.foldl stpL (.go e h))
section
variable {T : AT} {k : Nat} {Q : XT → SE → SH → Prop} {K : SE → SH → Prop} {e e' : SE} {h h' : SH} {w : Wd} {ch : AH} {n : Nat}
theorem all_pre : ∀ {Q P : List Bool}, Q.isPrefixOf P = true → P.all id = true → Q.all id = true
  | [], _, _, _ => rfl
  | a :: Q, [], h, _ => by simp [List.isPrefixOf] at h
  | a :: Q, b :: P, h, hp => by
    simp only [List.isPrefixOf, Bool.and_eq_true, beq_iff_eq] at h
    simp only [List.all_cons, Bool.and_eq_true] at hp ⊢
    exact ⟨by rw [h.1]; exact hp.1, all_pre h.2 hp.2⟩
theorem und_rs {P : List Bool} (hp : P.all id = true) {v : SV} {a : AV} (hv : RS w n v a) : RS w n (und P v) a := by
  cases hv with
  | altT h1 h2 =>
    simp only [und]
    split
    · exact h2
    · exact .altT h1 h2
  | altF h1 =>
    simp only [und]
    split
    · rename_i hq
      rw [all_pre hq hp] at h1; cases h1
    · exact .altF h1
  | p h => exact .p h
  | ptr a b => exact .ptr a b
  | ep a b => exact .ep a b
  | sl a b c d e f g => exact .sl a b c d e f g
  | slv a b c => exact .slv a b c
  | so a b c => exact .so a b c
  | mp a b => exact .mp a b
  | fn a b c d => exact .fn a b c d
  | agg a b => exact .agg a b
  | tup a b => exact .tup a b
  | un => exact .un
theorem und_re {P : List Bool} (hp : P.all id = true) {e : SE} {ce : Env} (he : RE w n e ce) : RE w n (SE.und P e) ce := fun s => by
  rw [eg_und]; exact und_rs hp (he s)
def gC (x : Bool) : AV → Option Bool
  | .b y => some (y == x)
  | .tup [] => some false
  | _ => none
theorem gP_ok {v : SV} {a : AV} (hv : RS w n v a) {x : Bool} {P : List Bool} (hg : gP x v = some P) : gC x a = some (P.all id) := by
  unfold gP at hg
  split at hg
  · cases hg
    rename_i y; cases hv with | p hv => cases hv with | b => cases x <;> cases y <;> rfl
  · rename_i Q y
    cases hg
    cases hv with
    | altT h1 h2 =>
      cases h2 with | p h2 => cases h2 with | b =>
      simp only [List.all_append, h1]
      cases x <;> cases y <;> rfl
    | altF h1 => simp [gC, List.all_append, h1]
  · cases hg
    cases hv with
    | tup h1 h2 =>
      rename_i ccs
      have : ccs = [] := List.length_eq_zero_iff.1 h1.symm
      subst this
      rfl
  · rename_i Q _ _
    split at hg
    · cases hg
    · rename_i hQ
      cases hg
      cases hv with
      | altT h1 h2 => exact (hQ h1).elim
      | altF h1 => simp only [gC, h1]
  · cases hg
theorem guardP_ok {e : SE} {ce : Env} (he : RE w n e ce) {g : Option (Nat × Bool)} {P : List Bool} (hg : guardP e g = some P) : guarded ce g = some (P.all id) := by
  cases g with
  | none => cases hg; rfl
  | some q =>
    obtain ⟨s, x⟩ := q
    have := gP_ok (he s) hg
    exact this
theorem pickV_ok {P : List Bool} (hp : P.all id = true) {e : SE} {ce : Env} (he : RE w n e ce) {c a b : AX} {v : SV} (hv : pickV P e c a b = some v) : ∃ cv, aop (.pick c a b) ce ch = some (cv, ch) ∧ RS w n v cv := by
  unfold pickV at hv
  split at hv
  · rename_i y hy
    have hc := und_rs hp (evs_rs he c)
    rw [hy] at hc
    generalize hz : ev ce c = z at hc
    cases hc with | p hc => cases hc with | b =>
    have h1 : y = true → RS w n (und (P ++ [y]) (evs e a)) (ev ce a) := fun hy => und_rs (by simp [List.all_append, hp, hy]) (evs_rs he a)
    have h2 : y = false → RS w n (und (P ++ [!y]) (evs e b)) (ev ce b) := fun hy => und_rs (by simp [List.all_append, hp, hy]) (evs_rs he b)
    split at hv
    · rename_i va vb ha hb
      cases hv
      cases y with
      | true => exact ⟨ev ce a, by simp only [aop, hz], by have := h1 rfl; rw [ha] at this; exact this⟩
      | false => exact ⟨ev ce b, by simp only [aop, hz], by have := h2 rfl; rw [hb] at this; exact this⟩
    · cases y with
      | true => cases hv; exact ⟨ev ce a, by simp only [aop, hz], h1 rfl⟩
      | false => cases hv; exact ⟨ev ce b, by simp only [aop, hz], h2 rfl⟩
  · cases hv
theorem foldA_stop (e : SE) (h : SH) : ∀ (l : List AOp) (s : Stop2), l.foldl stpA (.stop e h s) = .stop e h ⟨s.d, s.f, s.args, s.rest ++ l⟩
  | [], s => by simp
  | o :: l, s => by simp only [List.foldl_cons, stpA]; rw [foldA_stop e h l]; simp
theorem foldA_bad : ∀ (l : List AOp), l.foldl stpA .bad = .bad
  | [] => rfl
  | o :: l => by simp only [List.foldl_cons, stpA]; exact foldA_bad l
theorem foldL_stop (e : SE) (h : SH) : ∀ (l : List AOp) (s : Stop2), l.foldl stpL (.stop e h s) = .stop e h ⟨s.d, s.f, s.args, s.rest ++ l⟩
  | [], s => by simp
  | o :: l, s => by simp only [List.foldl_cons, stpL]; rw [foldL_stop e h l]; simp
theorem foldL_bad : ∀ (l : List AOp), l.foldl stpL .bad = .bad
  | [] => rfl
  | o :: l => by simp only [List.foldl_cons, stpL]; exact foldL_bad l
theorem run2l_eq : ∀ {l : List AOp} {e : SE} {h : SH} {r : SE × SH × Option Stop2}, run2l l e h = some r → run2 l e h = some r
  | [], e, h, r, hr => hr
  | ⟨d, g, o⟩ :: l, e, h, r, hr => by
    simp only [run2l, List.foldl_cons, stpL] at hr
    simp only [run2]
    cases hg : guarded2 e g with
    | none => rw [hg] at hr; simp only [foldL_bad, endS] at hr; cases hr
    | some x =>
      rw [hg] at hr
      cases x with
      | false => exact run2l_eq hr
      | true =>
        simp only at hr ⊢
        cases hn : nxt2 o e with
        | call f args => rw [hn] at hr; simp only [foldL_stop, endS, List.nil_append] at hr; exact hr
        | bad => rw [hn] at hr; simp only [foldL_bad, endS] at hr; cases hr
        | go =>
          rw [hn] at hr
          simp only at hr ⊢
          cases ha : aop2 o e h with
          | none => rw [ha] at hr; simp only [foldL_bad, endS] at hr; cases hr
          | some x =>
            obtain ⟨v, h'⟩ := x
            rw [ha] at hr
            exact run2l_eq hr
theorem run2a_sound : ∀ {l : List AOp} {e e' : SE} {h h' : SH} {s : Option Stop2}, run2a l e h = some (e', h', s) → CK T k K e' h' s → WO2 T k l e h K
  | [], e, e', h, h', s, hr, hk => by cases hr; exact WO2_nil hk
  | ⟨d, g, o⟩ :: l, e, e', h, h', s, hr, hk => by
    simp only [run2a, List.foldl_cons, stpA] at hr
    split at hr
    · rw [foldA_bad] at hr; cases hr
    · rename_i hg
      split at hr
      · rename_i hc
        rw [foldA_stop] at hr
        simp only [endS, List.nil_append] at hr
        cases hr
        refine WO2_step fun w ce ch h1 h2 => ?_
        obtain ⟨cargs, q1, q2⟩ := nxt2_call h2 hc
        obtain ⟨n, cv, ch', w', e', h', a1, a2, a3, a4, a5⟩ := hk w ce ch cargs h1 h2 q2
        refine ⟨n, cv, ch', w', e', h', ?_, a2, a3, a4, a5⟩
        simp only [stepOp, guardP_ok h2 hg, List.all_nil, q1]
        exact a1
      · rename_i hc
        split at hr
        · rename_i v h1' ha
          refine WO2_step fun w ce ch h1 h2 => ?_
          have hok : Ok2 k w h ch v h1' (aop o ce ch) := by
            unfold stepA at ha
            split at ha
            · obtain ⟨ha2, rfl⟩ := ph_eq ha
              obtain ⟨cv, b1, b2⟩ := pickV_ok (ch := ch) (P := []) rfl h2 ha2
              exact .pure h1 b1 b2
            · exact aop2_sound h1 (und_re (P := []) rfl h2) ha
          obtain ⟨cv, ch', w', a1, a2, a3, a4, a5, a6⟩ := hok
          refine ⟨0, cv, ch', w', _, h1', ?_, a2, (h2.mono a4 a5).put a3 d, a6, run2a_sound hr hk⟩
          simp only [stepOp, guardP_ok h2 hg, List.all_nil, nxt2_go hc]
          exact a1
        · rw [foldA_bad] at hr; cases hr
      · rw [foldA_bad] at hr; cases hr
    · rename_i c P hg
      split at hr
      · rename_i hq
        have hnc : ∀ C ce ch, exOp C o ce ch = aop o ce ch := fun C ce ch => by cases o <;> first | rfl | (simp [quietOp] at hq; done)
        have hskip : ∀ v, WO2 T k l (epu e d (.alt (c :: P) v)) h K → (∀ w ce ch, RH w h ch → RE w h.length e ce → (c :: P).all id = true → ∃ cv, aop o ce ch = some (cv, ch) ∧ RS w h.length v cv) → WO2 T k (⟨d, g, o⟩ :: l) e h K := fun v hw hv => by
          refine WO2_step fun w ce ch h1 h2 => ?_
          cases hall : (c :: P).all id with
          | true =>
            obtain ⟨cv, a1, a2⟩ := hv w ce ch h1 h2 hall
            refine ⟨0, cv, ch, w, _, h, ?_, h1, h2.put (.altT hall a2) d, .refl _ _ _ _, hw⟩
            simp only [stepOp, guardP_ok h2 hg, hall, hnc]
            exact a1
          | false =>
            refine ⟨0, .tup [], ch, w, _, h, ?_, h1, h2.put (.altF hall) d, .refl _ _ _ _, hw⟩
            simp only [stepOp, guardP_ok h2 hg, hall]
        split at hr
        · rename_i v h1' ha
          refine hskip v (run2a_sound hr hk) fun w ce ch h1 h2 hall => ?_
          unfold stepA at ha
          split at ha
          · obtain ⟨ha2, rfl⟩ := ph_eq ha
            exact pickV_ok hall h2 ha2
          · exact aop2_quiet h1 (und_re hall h2) ha hq
        · rename_i ha
          split at hr
          · rw [foldA_bad] at hr; cases hr
          · rename_i hall
            refine hskip .un (run2a_sound hr hk) fun w ce ch h1 h2 h3 => (hall h3).elim
      · split at hr
        · rename_i hall
          split at hr
          · rename_i hc
            rw [foldA_stop] at hr
            simp only [endS, List.nil_append] at hr
            cases hr
            refine WO2_step fun w ce ch h1 h2 => ?_
            obtain ⟨cargs, q1, q2⟩ := nxt2_call (und_re hall h2) hc
            obtain ⟨n, cv, ch', w', e', h', a1, a2, a3, a4, a5⟩ := hk w ce ch cargs h1 h2 q2
            refine ⟨n, cv, ch', w', e', h', ?_, a2, a3, a4, a5⟩
            simp only [stepOp, guardP_ok h2 hg, hall, q1]
            exact a1
          · rename_i hc
            split at hr
            · rename_i v h1' ha
              refine WO2_step fun w ce ch h1 h2 => ?_
              obtain ⟨cv, ch', w', a1, a2, a3, a4, a5, a6⟩ := aop2_sound h1 (und_re hall h2) ha
              refine ⟨0, cv, ch', w', _, h1', ?_, a2, (h2.mono a4 a5).put a3 d, a6, run2a_sound hr hk⟩
              simp only [stepOp, guardP_ok h2 hg, hall, nxt2_go hc]
              exact a1
            · rw [foldA_bad] at hr; cases hr
          · rw [foldA_bad] at hr; cases hr
        · rename_i hall
          refine WO2_step fun w ce ch h1 h2 => ?_
          refine ⟨0, .tup [], ch, w, _, h, ?_, h1, h2.put (.tup rfl (by intro j; simp)) d, .refl _ _ _ _, run2a_sound hr hk⟩
          simp only [stepOp, guardP_ok h2 hg, hall]
theorem pickB_tt (a b : Bool) : pickB true a b = a := rfl
theorem pickB_ff (a b : Bool) : pickB false a b = b := rfl
def runK2a (ops : List AOp) (kp : List Nat) (e : SE) (h : SH) : Option (SE × SH) :=
  match run2a ops e h with
  | some (e', h', none) => some (kp.map fun s => (s, eg e' s), h')
  | _ => none
theorem W2_runa {ops : List AOp} {kp : List Nat} (hr : runK2a ops kp e h = some (e', h')) (hq : Q .nrm e' h') : W2 T k (.reg ops kp) e h Q := by
  unfold runK2a at hr
  split at hr
  · rename_i h1; cases hr; exact W2_reg (run2a_sound h1 hq)
  · cases hr
theorem W2_runda {ops : List AOp} {kp : List Nat} (hr : runK2a ops kp e h = some (e', h')) (hq : Q .nrm e' h') : W2 T k (.regd ops [] kp) e h Q := by
  unfold runK2a at hr
  split at hr
  · rename_i h1; cases hr; exact W2_regd (run2a_sound h1 hq)
  · cases hr
theorem WO2_fina {l : List AOp} {kp : List Nat} (hr : runK2a l kp e h = some (e', h')) (hq : Q .nrm e' h') : WO2 T k l e h fun e h => Q .nrm (kp.map fun s => (s, eg e s)) h := by
  unfold runK2a at hr
  split at hr
  · rename_i h1; cases hr; exact run2a_sound h1 hq
  · cases hr
theorem W2_t2 {c : AX} {a b : AC} {v : SV} (hv : evs e c = v) (hc : v = .p (.b true)) (ha : W2 T k a e h Q) : W2 T k (.cond c a b) e h Q := W2_true (hv.trans hc) ha
theorem W2_f2 {c : AX} {a b : AC} {v : SV} (hv : evs e c = v) (hc : v = .p (.b false)) (ha : W2 T k b e h Q) : W2 T k (.cond c a b) e h Q := W2_false (hv.trans hc) ha
/-! ### one behind the other, without words between -/
theorem W2_sra {ops : List AOp} {kp : List Nat} {b : AC} (hr : runK2a ops kp e h = some (e', h')) (hb : W2 T k b e' h' Q) : W2 T k (.seq (.reg ops kp) b) e h Q := W2_seq (W2_runa hr hb)
theorem W2_srda {ops : List AOp} {kp : List Nat} {b : AC} (hr : runK2a ops kp e h = some (e', h')) (hb : W2 T k b e' h' Q) : W2 T k (.seq (.regd ops [] kp) b) e h Q := W2_seq (W2_runda hr hb)
theorem W2_sr {ops : List AOp} {kp : List Nat} {b : AC} (hr : runK2 ops kp e h = some (e', h')) (hb : W2 T k b e' h' Q) : W2 T k (.seq (.reg ops kp) b) e h Q := W2_seq (W2_run hr hb)
theorem W2_srd {ops : List AOp} {kp : List Nat} {b : AC} (hr : runK2 ops kp e h = some (e', h')) (hb : W2 T k b e' h' Q) : W2 T k (.seq (.regd ops [] kp) b) e h Q := W2_seq (W2_rund hr hb)
theorem W2_ss {b : AC} (hb : W2 T k b e h Q) : W2 T k (.seq .skip b) e h Q := W2_seq (W2_skip hb)
theorem W2_sret {b : AC} (hq : Q .ret e h) : W2 T k (.seq .ret b) e h Q := W2_seq (W2_ret hq)
theorem W2_sexit {b : AC} {i : Nat} (hq : Q (.ex i) e h) : W2 T k (.seq (.exit i) b) e h Q := W2_seq (W2_exit hq)
theorem W2_sas {a b c : AC} (hb : W2 T k (.seq a (.seq b c)) e h Q) : W2 T k (.seq (.seq a b) c) e h Q := by
  refine ⟨fun w ce ch r1 r2 => ?_⟩
  obtain ⟨n, t, ce', ch', w', e', h', a1, a2⟩ := hb.run w ce ch r1 r2
  refine ⟨n, t, ce', ch', w', e', h', ?_, a2⟩
  simp only [exC] at a1 ⊢
  cases hx : exC (exN T n) n a ce ch with
  | none => rw [hx] at a1; cases a1
  | some x =>
    obtain ⟨t1, ce1, ch1⟩ := x
    rw [hx] at a1
    cases t1 with
    | nrm => exact a1
    | ret => exact a1
    | ex i => exact a1
theorem W2_sct {c : AX} {a b d : AC} {v : SV} (hv : evs e c = v) (hc : v = .p (.b true)) (ha : W2 T k (.seq a d) e h Q) : W2 T k (.seq (.cond c a b) d) e h Q := by
  refine ⟨fun w ce ch r1 r2 => ?_⟩
  have hx := evs_rs r2 c
  rw [hv, hc] at hx
  generalize hz : ev ce c = z at hx
  cases hx with | p hx => cases hx with | b =>
  obtain ⟨n, t, ce', ch', w', e', h', a1, a2⟩ := ha.run w ce ch r1 r2
  exact ⟨n, t, ce', ch', w', e', h', by simp only [exC, hz] at a1 ⊢; exact a1, a2⟩
theorem W2_scf {c : AX} {a b d : AC} {v : SV} (hv : evs e c = v) (hc : v = .p (.b false)) (hb : W2 T k (.seq b d) e h Q) : W2 T k (.seq (.cond c a b) d) e h Q := by
  refine ⟨fun w ce ch r1 r2 => ?_⟩
  have hx := evs_rs r2 c
  rw [hv, hc] at hx
  generalize hz : ev ce c = z at hx
  cases hx with | p hx => cases hx with | b =>
  obtain ⟨n, t, ce', ch', w', e', h', a1, a2⟩ := hb.run w ce ch r1 r2
  exact ⟨n, t, ce', ch', w', e', h', by simp only [exC, hz] at a1 ⊢; exact a1, a2⟩
/-- a look at both cases -/
theorem W2_sc {c : AX} {a b d : AC} {x : Bool} (hv : evs e c = .p (.b x)) (ha : x = true → W2 T k (.seq a d) e h Q) (hb : x = false → W2 T k (.seq b d) e h Q) : W2 T k (.seq (.cond c a b) d) e h Q := by
  cases x
  · exact W2_scf hv rfl (hb rfl)
  · exact W2_sct hv rfl (ha rfl)
/-- a call in a region, then the rest -/
theorem W2_scall {ops : List AOp} {kp : List Nat} {c : AC} {e1 : SE} {h1 : SH} {d : Option Nat} {g : Nat} {args : List SV} {rest : List AOp} (hr : run2a ops e h = some (e1, h1, some ⟨d, g, args, rest⟩))
    (hk : CK T k (fun e h => W2 T k c (kp.map fun s => (s, eg e s)) h Q) e1 h1 (some ⟨d, g, args, rest⟩)) : W2 T k (.seq (.reg ops kp) c) e h Q := W2_seq (W2_reg (run2a_sound hr hk))
theorem W2_scalld {ops : List AOp} {kp : List Nat} {c : AC} {e1 : SE} {h1 : SH} {d : Option Nat} {g : Nat} {args : List SV} {rest : List AOp} (hr : run2a ops e h = some (e1, h1, some ⟨d, g, args, rest⟩))
    (hk : CK T k (fun e h => W2 T k c (kp.map fun s => (s, eg e s)) h Q) e1 h1 (some ⟨d, g, args, rest⟩)) : W2 T k (.seq (.regd ops [] kp) c) e h Q := W2_seq (W2_regd (run2a_sound hr hk))
theorem W2_calla {ops : List AOp} {kp : List Nat} {e1 : SE} {h1 : SH} {d : Option Nat} {g : Nat} {args : List SV} {rest : List AOp} (hr : run2a ops e h = some (e1, h1, some ⟨d, g, args, rest⟩))
    (hk : CK T k (fun e h => Q .nrm (kp.map fun s => (s, eg e s)) h) e1 h1 (some ⟨d, g, args, rest⟩)) : W2 T k (.reg ops kp) e h Q := W2_reg (run2a_sound hr hk)
theorem W2_callda {ops : List AOp} {kp : List Nat} {e1 : SE} {h1 : SH} {d : Option Nat} {g : Nat} {args : List SV} {rest : List AOp} (hr : run2a ops e h = some (e1, h1, some ⟨d, g, args, rest⟩))
    (hk : CK T k (fun e h => Q .nrm (kp.map fun s => (s, eg e s)) h) e1 h1 (some ⟨d, g, args, rest⟩)) : W2 T k (.regd ops [] kp) e h Q := W2_regd (run2a_sound hr hk)
theorem WO2_finw {l : List AOp} {kp : List Nat} {c : AC} (hr : runK2a l kp e h = some (e', h')) (hq : W2 T k c e' h' Q) : WO2 T k l e h fun e h => W2 T k c (kp.map fun s => (s, eg e s)) h Q := by
  unfold runK2a at hr
  split at hr
  · rename_i h1; cases hr; exact run2a_sound h1 hq
  · cases hr
theorem thn2_nrm (hk : K e h) : thn2 K Q .nrm e h := hk
theorem thn2_ret (hq : Q .ret e h) : thn2 K Q .ret e h := hq
theorem thn2_ex {i : Nat} (hq : Q (.ex i) e h) : thn2 K Q (.ex i) e h := hq
theorem blk2_nrm {i : Nat} (hq : Q .nrm e h) : blk2 i Q .nrm e h := hq
theorem blk2_ret {i : Nat} (hq : Q .ret e h) : blk2 i Q .ret e h := hq
theorem blk2_at {i : Nat} (hq : Q .nrm e h) : blk2 i Q (.ex i) e h := by simp only [blk2, if_true]; exact hq
theorem blk2_ex {i j : Nat} (hn : j ≠ i) (hq : Q (.ex j) e h) : blk2 i Q (.ex j) e h := by simp only [blk2]; rw [if_neg hn]; exact hq
def runK2l (ops : List AOp) (kp : List Nat) (e : SE) (h : SH) : Option (SE × SH) :=
  match run2l ops e h with
  | some (e', h', none) => some (kp.map fun s => (s, eg e' s), h')
  | _ => none
theorem runK2l_eq {ops : List AOp} {kp : List Nat} {r : SE × SH} (hr : runK2l ops kp e h = some r) : runK2 ops kp e h = some r := by
  unfold runK2l at hr
  split at hr
  · rename_i h1; simp only [runK2, run2l_eq h1]; exact hr
  · cases hr
theorem W2_srl {ops : List AOp} {kp : List Nat} {b : AC} (hr : runK2l ops kp e h = some (e', h')) (hb : W2 T k b e' h' Q) : W2 T k (.seq (.reg ops kp) b) e h Q := W2_sr (runK2l_eq hr) hb
theorem W2_srdl {ops : List AOp} {kp : List Nat} {b : AC} (hr : runK2l ops kp e h = some (e', h')) (hb : W2 T k b e' h' Q) : W2 T k (.seq (.regd ops [] kp) b) e h Q := W2_srd (runK2l_eq hr) hb
theorem W2_runl {ops : List AOp} {kp : List Nat} (hr : runK2l ops kp e h = some (e', h')) (hq : Q .nrm e' h') : W2 T k (.reg ops kp) e h Q := W2_run (runK2l_eq hr) hq
theorem W2_rundl {ops : List AOp} {kp : List Nat} (hr : runK2l ops kp e h = some (e', h')) (hq : Q .nrm e' h') : W2 T k (.regd ops [] kp) e h Q := W2_rund (runK2l_eq hr) hq
end
theorem cvs_mp {α : Type} (f : Nat → Option Nat) (g : α → PV) (l : List α) : SV.cvs f (l.map fun x => SV.p (g x)) = l.map fun x => SV.p (g x) := by
  induction l with
  | nil => rfl
  | cons a l ih => simp only [List.map_cons, SV.cvs, SV.cv, ih]
theorem frzs_mp {α : Type} (h : SH) (i : Nat) (g : α → PV) (l : List α) : SV.frzs h i (l.map fun x => SV.p (g x)) = l.map fun x => SV.p (g x) := by
  induction l with
  | nil => rfl
  | cons a l ih => simp only [List.map_cons, SV.frzs, SV.frz, ih]
theorem pvs_mp {α : Type} (g : α → PV) (l : List α) : pvs (l.map fun x => SV.p (g x)) = some (l.map g) := by
  induction l with
  | nil => rfl
  | cons a l ih => simp only [List.map_cons, pvs, ih, Option.map_some]
theorem cvs_p (f : Nat → Option Nat) (l : List PV) : SV.cvs f (l.map SV.p) = l.map SV.p := cvs_mp f id l
theorem frzs_p (h : SH) (i : Nat) (l : List PV) : SV.frzs h i (l.map SV.p) = l.map SV.p := frzs_mp h i id l
theorem pvs_p (l : List PV) : pvs (l.map SV.p) = some l := (pvs_mp id l).trans (by rw [List.map_id])
section
variable {T : AT} {k : Nat} {Q : XT → SE → SH → Prop} {e e' : SE} {h h' : SH}
theorem eg_keep (e : SE) (s : Nat) : ∀ (kp : List Nat), eg (kp.map fun s => (s, eg e s)) s = eg e s ∨ eg (kp.map fun s => (s, eg e s)) s = .un
  | [] => .inr rfl
  | a :: kp => by
    simp only [List.map_cons, eg]
    split
    · rename_i h; subst h; exact .inl rfl
    · exact eg_keep e s kp
/-- some slots are forgotten -/
theorem Wk.keep (kp : List Nat) (he : (kp.map fun s => (s, eg e s)) = e') : Wk k e h e' h := fun w ce ch r1 r2 => by
  subst he
  refine ⟨w, r1, fun s => ?_, .refl _ _ _ _⟩
  rcases eg_keep e s kp with h1 | h1
  · rw [h1]; exact r2 s
  · rw [h1]; exact .un
theorem Wk.viewq (σ : List Nat) (hn : σ.Nodup) (hp : pinOk k σ = true) (he : SE.cv (idx σ) e = e') (hh : Ab.view σ h = h') : Wk k e h e' h' := by
  subst he; subst hh; exact Wk.view σ hn hp
/-- a loop: what is known behind a round may be told otherwise, in any way -/
theorem W2_loopw {b : AC} (I : Nat → SE → SH → Prop) (m : Nat) (h0 : I m e h) (hb : ∀ m e h, I m e h → W2 T k b e h (thn2 (fun e' h' => ∃ e2 h2, Wk k e' h' e2 h2 ∧ ∃ m', m' < m ∧ I m' e2 h2) Q)) : W2 T k (.loop b) e h Q := by
  refine W2_loop I m h0 fun m e h hi => (hb m e h hi).post fun t e h hq => ?_
  cases t with
  | nrm =>
    obtain ⟨e2, h2, h3, h4⟩ := hq
    exact ⟨_, _, h3, h4⟩
  | ret => exact ⟨e, h, .refl, hq⟩
  | ex i => exact ⟨e, h, .refl, hq⟩
end
/-! ### equal, cell by cell -/
def andO (b : Bool) (o : Option Bool) : Option Bool :=
  match o with
  | some r => some (b && r)
  | none => if b = true then none else some false
theorem andO_some (b r : Bool) : andO b (some r) = some (b && r) := rfl
theorem aeqs_nil : aeqs [] [] [] = some true := rfl
theorem aeqs_it (ks : List SK) (k : IntKind) (x y : Int) (xs ys : List AV) : aeqs (.it :: ks) (.i k x :: xs) (.i k y :: ys) = andO (decide (x = y)) (aeqs ks xs ys) := by
  simp only [aeqs, sceq, if_true, andO]
  by_cases h : x = y
  · simp only [h, decide_true, if_true]; cases aeqs ks xs ys <;> rfl
  · simp only [h, decide_false]; cases aeqs ks xs ys <;> rfl
theorem aeqs_st (ks : List SK) (x y : List UInt8) (xs ys : List AV) : aeqs (.st :: ks) (.s x :: xs) (.s y :: ys) = andO (decide (x = y)) (aeqs ks xs ys) := by
  simp only [aeqs, sceq, andO]
  by_cases h : x = y
  · simp only [h, decide_true, if_true]; cases aeqs ks xs ys <;> rfl
  · simp only [h, decide_false]; cases aeqs ks xs ys <;> rfl
theorem aeqs_bo (ks : List SK) (x y : Bool) (xs ys : List AV) : aeqs (.bo :: ks) (.b x :: xs) (.b y :: ys) = andO (x == y) (aeqs ks xs ys) := by
  simp only [aeqs, sceq, andO]
  cases x == y <;> cases aeqs ks xs ys <;> rfl
theorem bq_t (b : Bool) : (b == true) = b := by cases b <;> rfl
theorem bq_f (b : Bool) : (b == false) = !b := by cases b <;> rfl
theorem map_take_r {α β : Type} (f : α → β) (l : List α) (n : Nat) : (l.map f).take n = (l.take n).map f := List.map_take.symm
theorem map_drop_r {α β : Type} (f : α → β) (l : List α) (n : Nat) : (l.map f).drop n = (l.drop n).map f := List.map_drop.symm
attribute [go_sem_proc] reduceIte Int.reduceToNat Int.reduceLT Int.reduceLE Nat.reduceLeDiff Nat.reduceLT Nat.reduceSub Nat.reduceAdd Nat.reduceMul Nat.reduceDiv Nat.reduceEqDiff Nat.reduceBEq Int.reduceAdd Int.reduceNeg Int.reduceEq Int.reduceMul Int.reduceSub reduceCtorEq
attribute [go_sem] runK2l run2l stpL endS List.foldl_cons List.foldl_nil guarded2 nxt2 aop2 evs eg epu ph uns cst sc usc abin sbin aeq2 aeqs_nil aeqs_it aeqs_st aeqs_bo andO_some bq_t bq_f scs pvs bindS ld2 ldc ldp bAt st2 SV.cl SV.isUn setg chk2 fa2 ia2 iaa2 sla2 ix2 ixs2 fld2 ext2 bnd2 slc2 sls2 len2 show2 app2 appo2 cpy2 clr2 mks2 csts fills2 chunk sptr amins amaxs SV.cv SV.cvs SE.cv B2.cv kills gback idx back_nil SH.cv view lendA SV.frz SV.frzs SE.frz SH.frz B2.frz nilS aress2 ares2 tie2 SV.isTup Option.map_some Option.map_none Option.isSome_some Option.isSome_none Option.isNone_some Option.isNone_none Option.getD_some Option.getD_none List.map_cons List.map_nil List.getElem?_cons_zero List.getElem?_cons_succ List.getElem?_nil List.length_cons List.length_nil List.length_map List.length_append List.length_set List.length_replicate List.set_cons_zero List.set_cons_succ List.drop_zero List.drop_nil List.drop_succ_cons List.take_succ_cons List.take_zero List.take_nil List.take_length List.append_nil List.nil_append List.cons_append List.all_cons List.all_nil List.any_cons List.any_nil Bool.or_false Bool.and_true Bool.true_and Bool.false_and Bool.and_false Bool.false_eq_true and_self if_true if_false Int.toNat_zero Int.toNat_natCast decide_true decide_false bne Bool.not_true Bool.not_false beq_self_eq_true beq_ft beq_tf Int.cast_ofNat_Int true_and and_true Nat.zero_add Nat.le_refl Nat.add_zero Nat.sub_zero Nat.zero_mul Nat.mul_one Nat.one_mul Nat.succ_ne_zero Bool.or_self Nat.lt_irrefl Nat.zero_lt_one Option.some.injEq List.getElem?_map map_take_all map_drop_all Int.natCast_nonneg Int.ofNat_lt cvs_mp frzs_mp pvs_mp cvs_p frzs_p pvs_p back back1 bjoin runK2a run2a stpA guardP gP stepA pickV und eg_und quietOp List.isPrefixOf pickB_t pickB_f pickB_tt pickB_ff id_eq Bool.and_self Bool.true_or Bool.or_true Bool.false_or bytes2_c8 map_take_r map_drop_r
end Go.Proofs.Ytadbipeachcekaa.Ab
/- The second machine: regions whose order is open, with readers that are read again. -/
namespace Go.Proofs.Ytadbipeachcekaa.Ab
open Go
set_option linter.unusedVariables false
set_option linter.unusedSimpArgs false
/-- of the first states of a trace: block c is as it was; a reader that is marked reads it alone -/
def TrG (c : Nat) (cb : Option Blk) : List Bool → List AOp → List (Env × AH × AV) → Prop
  | b :: fl, o :: ops, x :: tr => (x.2.1.blk c = cb ∧ (b = true → guarded x.1 o.g = some false ∨ guarded x.1 o.g = some true ∧ ∀ ch2 : AH, ch2.blk c = cb → ∃ h2, aop o.o x.1 ch2 = some (x.2.2, h2))) ∧ TrG c cb fl ops tr
  | _, _, _ => True
theorem TrG.get {c : Nat} {cb : Option Blk} : ∀ {fl : List Bool} {ops : List AOp} {tr : List (Env × AH × AV)}, TrG c cb fl ops tr → ∀ {i : Nat} {b : Bool} {o : AOp} {x : Env × AH × AV}, fl[i]? = some b → ops[i]? = some o → tr[i]? = some x →
    x.2.1.blk c = cb ∧ (b = true → guarded x.1 o.g = some false ∨ guarded x.1 o.g = some true ∧ ∀ ch2 : AH, ch2.blk c = cb → ∃ h2, aop o.o x.1 ch2 = some (x.2.2, h2))
  | [], _, _, _, i, _, _, _, h, _, _ => by simp at h
  | _ :: _, [], _, _, i, _, _, _, _, h, _ => by simp at h
  | _ :: _, _ :: _, [], _, i, _, _, _, _, _, h => by simp at h
  | b :: fl, o :: ops, x :: tr, hg, 0, _, _, _, h1, h2, h3 => by
    cases h1; cases h2; cases h3; exact hg.1
  | b :: fl, o :: ops, x :: tr, hg, i + 1, _, _, _, h1, h2, h3 => hg.2.get h1 h2 h3
theorem exTr_len {C : CallF} : ∀ {l : List AOp} {e e' : Env} {h h' : AH} {tr : List (Env × AH × AV)}, exTr C l e h = some (tr, e', h') → tr.length = l.length
  | [], e, e', h, h', tr, hr => by cases hr; rfl
  | o :: l, e, e', h, h', tr, hr => by
    simp only [exTr] at hr
    split at hr
    · split at hr
      · rename_i ht
        cases hr
        simp [exTr_len ht]
      · cases hr
    · cases hr
/-- the readers that are read again are marked, and where they are is among the first states -/
def rcB (n : Nat) (fl : List Bool) (rc : List (Nat × Nat)) : Bool := rc.all fun q => fl[q.1]? == some true && decide (q.2 < fl.length) && decide (q.2 ≤ n) && decide (q.1 < n)
theorem rc_ok {c : Nat} {cb : Option Blk} {fl : List Bool} {ops : List AOp} {tr : List (Env × AH × AV)} {hf : AH} {rc : List (Nat × Nat)} (ht : TrG c cb fl ops tr) (hfin : ops.length < fl.length → hf.blk c = cb) (hl : tr.length = ops.length) (hb : rcB ops.length fl rc = true) : rcOk ops tr hf rc = true := by
  simp only [rcOk, List.all_eq_true]
  intro q hq
  simp only [rcB, List.all_eq_true, Bool.and_eq_true, beq_iff_eq, decide_eq_true_eq] at hb
  obtain ⟨⟨⟨h1, h2⟩, h3⟩, hi⟩ := hb q hq
  have hit : q.1 < tr.length := by omega
  have a1 := List.getElem?_eq_getElem hi
  have a2 := List.getElem?_eq_getElem hit
  obtain ⟨_, g2⟩ := ht.get h1 a1 a2
  have g3 : (((tr[q.2]?).map fun x => x.2.1).getD hf).blk c = cb := by
    by_cases hj : q.2 < tr.length
    · have a3 := List.getElem?_eq_getElem hj
      rw [a3]
      exact (ht.get (List.getElem?_eq_getElem h2) (List.getElem?_eq_getElem (show q.2 < ops.length by omega)) a3).1
    · rw [List.getElem?_eq_none (by omega)]
      exact hfin (by omega)
  simp only [rcOne, a1, a2]
  rcases g2 rfl with g | ⟨g, g4⟩
  · rw [g]
  · obtain ⟨h2', g5⟩ := g4 _ g3
    rw [g, g5]; simp
/-! ### readers -/
def rdB (s : Nat) (P : List Bool) (e : SE) : AO → Bool
  | .ld _ a => match und P (evs e a) with | .ptr id _ => id == s | .ep _ id _ _ => id == s | _ => false
  | .toStr x => match und P (evs e x) with | .sl _ id _ _ _ => id == s | _ => false
  | _ => false
theorem aload_at {sz : Option Nat} {c o : Nat} {ch ch2 ch' : AH} {v : AV} (hb : ch2.blk c = ch.blk c) (h : aload sz (.ptr c o) ch = some (v, ch')) : aload sz (.ptr c o) ch2 = some (v, ch2) := by
  unfold aload at h ⊢
  cases sz with
  | none =>
    simp only [Option.map_eq_some_iff, AH.rd, hb] at h ⊢
    obtain ⟨x, h1, h2⟩ := h
    cases h2
    exact ⟨_, h1, rfl⟩
  | some n =>
    simp only [Option.map_eq_some_iff, AH.rdn, hb] at h ⊢
    obtain ⟨x, h1, h2⟩ := h
    cases h2
    exact ⟨_, h1, rfl⟩
theorem rd_at {w : Wd} {n s c : Nat} {P : List Bool} {e : SE} {ce : Env} {ch ch2 ch' : AH} {o : AO} {v : AV} (hp : P.all id = true) (he : RE w n e ce) (hc : w.ρ s = some c) (hr : rdB s P e o = true) (hb : ch2.blk c = ch.blk c) (h : aop o ce ch = some (v, ch')) :
    ∃ h2, aop o ce ch2 = some (v, h2) := by
  unfold rdB at hr
  split at hr
  · rename_i sz a
    have hx := und_rs hp (evs_rs he a)
    simp only [aop] at h ⊢
    split at hr
    · rename_i id off e1
      rw [e1] at hx
      rw [beq_iff_eq] at hr; subst hr
      generalize ev ce a = z at hx h
      cases hx with | ptr _ h2 => rw [hc] at h2; cases h2; exact ⟨_, aload_at hb h⟩
    · rename_i esz id j t e1
      rw [e1] at hx
      rw [beq_iff_eq] at hr; subst hr
      generalize ev ce a = z at hx h
      cases hx with | ep _ h2 => rw [hc] at h2; cases h2; exact ⟨_, aload_at hb h⟩
    · cases hr
  · rename_i x
    have hx := und_rs hp (evs_rs he x)
    simp only [aop] at h ⊢
    split at hr
    · rename_i esz id off len cap e1
      rw [e1] at hx
      rw [beq_iff_eq] at hr; subst hr
      generalize ev ce x = z at hx h
      cases hx with
      | sl _ h2 =>
        rw [hc] at h2; cases h2
        simp only [ashow, AH.rdn, hb, pureh] at h ⊢
        split at h
        · rename_i q1
          simp only [Option.map_eq_some_iff] at h ⊢
          obtain ⟨y, q2, q3⟩ := h
          cases q3
          exact ⟨_, _, q2, rfl⟩
        · cases h
      | slv _ h2 => rw [hc] at h2; cases h2
    · cases hr
  · cases hr
/-! ### a block that is out of sight -/
section
variable {T : AT} {k : Nat} {w w' : Wd} {h h' : SH} {ch ch' : AH} {s c : Nat} {b : B2}
theorem hid_get {i : Nat} {b : B2} (hi : (h.set s none)[i]? = some (some b)) : i ≠ s ∧ h[i]? = some (some b) := by
  rw [List.getElem?_set] at hi
  split at hi
  · split at hi <;> cases hi
  · rename_i hn; exact ⟨fun e => hn e.symm, hi⟩
theorem RH.hid (r : RH w h ch) (s : Nat) : RH w (h.set s none) ch where
  inj := fun i j b b' c h1 h2 => r.inj i j b b' c (hid_get h1).2 (hid_get h2).2
  lt := fun i c hi => r.lt i c (by simpa using hi)
  nf := fun i b c h1 => r.nf i b c (hid_get h1).2
  fro := r.fro
  blk := fun i b c h1 h2 => by
    rw [List.length_set]
    exact r.blk i b c (hid_get h1).2 h2
  vir := fun i b h1 => r.vir i b (hid_get h1).2
  wf := r.wf
theorem unhid_get {i : Nat} {b' : B2} (hi : (h'.set s (some b))[i]? = some (some b')) : (i = s ∧ b' = b) ∨ (i ≠ s ∧ h'[i]? = some (some b')) := by
  rw [List.getElem?_set] at hi
  split at hi
  · split at hi
    · rename_i e _; cases hi; exact .inl ⟨e.symm, rfl⟩
    · cases hi
  · rename_i hn; exact .inr ⟨fun e => hn e.symm, hi⟩
theorem RH.unhid (r : RH w h ch) (hb : h[s]? = some (some b)) (hc : w.ρ s = some c) (r' : RH w' h' ch') (hl : Le h.length w w') (hn : h.length ≤ h'.length) (f : Fr k w (h.set s none) ch w' h' ch') :
    RH w' (h'.set s (some b)) ch' ∧ Fr k w h ch w' (h'.set s (some b)) ch' ∧ ch'.blk c = ch.blk c := by
  have hs := live_lt hb
  have hcn := r.lv hb hc
  have no : ∀ (i : Nat) b', (h.set s none)[i]? = some (some b') → w.ρ i ≠ some c := fun i b' hi hρ => (hid_get hi).1 (r.inj i s b' b c (hid_get hi).2 hb hρ hc)
  have hblk := f.same c hcn no
  have hρ : w'.ρ s = some c := (hl.ρ s hs).trans hc
  have no' : ∀ (i : Nat) b', i ≠ s → h'[i]? = some (some b') → w'.ρ i ≠ some c := fun i b' hi h1 h2 => by
    rcases f.src i b' c h1 h2 with ⟨j, b0, h3, h4⟩ | h3
    · exact no j b0 h3 h4
    · omega
  refine ⟨⟨?_, ?_, ?_, r'.fro, ?_, ?_, r'.wf⟩, ⟨f.nx, f.fro, f.rl, ?_, ?_, ?_, ?_⟩, hblk⟩
  · intro i j bi bj ci hi hj hci hcj
    rcases unhid_get hi with ⟨rfl, rfl⟩ | ⟨hne, hi'⟩
    · rcases unhid_get hj with ⟨rfl, _⟩ | ⟨hne, hj'⟩
      · rfl
      · rw [hρ] at hci; cases hci; exact (no' j bj hne hj' hcj).elim
    · rcases unhid_get hj with ⟨rfl, _⟩ | ⟨hne', hj'⟩
      · rw [hρ] at hcj; cases hcj; exact (no' i bi hne hi' hci).elim
      · exact r'.inj i j bi bj ci hi' hj' hci hcj
  · intro i ci hi hci
    rw [List.length_set] at hi
    exact r'.lt i ci hi hci
  · intro i bi ci hi hci
    rcases unhid_get hi with ⟨rfl, rfl⟩ | ⟨hne, hi'⟩
    · rw [hρ] at hci; cases hci
      cases hf : w'.fro c with
      | none => rfl
      | some row =>
        rcases f.frz c row hf with h1 | h1 | ⟨j, b0, h1, h2⟩
        · rw [r.nf i _ c hb hc] at h1; cases h1
        · omega
        · exact (no j b0 h1 h2).elim
    · exact r'.nf i bi ci hi' hci
  · intro i bi ci hi hci
    rw [List.length_set]
    rcases unhid_get hi with ⟨rfl, rfl⟩ | ⟨hne, hi'⟩
    · rw [hρ] at hci; cases hci
      obtain ⟨cb, h1, h2⟩ := r.blk i _ c hb hc
      exact ⟨cb, hblk.trans h1, h2.mono hl hn (hl.rl i c hs hc)⟩
    · exact r'.blk i bi ci hi' hci
  · intro i bi hi hci
    rcases unhid_get hi with ⟨rfl, rfl⟩ | ⟨hne, hi'⟩
    · rw [hρ] at hci; cases hci
    · exact r'.vir i bi hi' hci
  · exact fun c0 h1 h2 => f.same c0 h1 fun i b' hi => h2 i b' (hid_get hi).2
  · intro i h1 h2
    have := f.pin i h1 (by rw [List.length_set]; exact h2)
    exact ⟨by rw [List.length_set]; exact this.1, this.2⟩
  · intro i bi ci hi hci
    rcases unhid_get hi with ⟨rfl, rfl⟩ | ⟨hne, hi'⟩
    · rw [hρ] at hci; cases hci; exact .inl ⟨i, bi, hb, hc⟩
    · rcases f.src i bi ci hi' hci with ⟨j, b0, h1, h2⟩ | h1
      · exact .inl ⟨j, b0, (hid_get h1).2, h2⟩
      · exact .inr h1
  · intro i row hf
    rcases f.frz i row hf with h1 | h1 | ⟨j, b0, h1, h2⟩
    · exact .inl h1
    · exact .inr (.inl h1)
    · exact .inr (.inr ⟨j, b0, (hid_get h1).2, h2⟩)
end
/-! ### a region whose first states are looked at -/
structure WOG (T : AT) (k s : Nat) (fl : List Bool) (l : List AOp) (e : SE) (h : SH) (K : SE → SH → Prop) : Prop where
  run : ∀ w ce ch c, RH w h ch → RE w h.length e ce → (∃ b, h[s]? = some (some b)) → w.ρ s = some c → ∃ n tr ce' ch' w' e' h', exTr (exN T n) l ce ch = some (tr, ce', ch') ∧ TrG c (ch.blk c) fl l tr ∧ (l.length < fl.length → ch'.blk c = ch.blk c) ∧ K e' h' ∧ RH w' h' ch' ∧ RE w' h'.length e' ce' ∧ Fr k w h ch w' h' ch'
section
variable {T : AT} {k s : Nat} {Q : XT → SE → SH → Prop} {K : SE → SH → Prop} {e e' : SE} {h h' : SH}
theorem WOG_end {l : List AOp} (r : WO2 T k l e h K) : WOG T k s [] l e h K := ⟨fun w ce ch c h1 h2 _ _ => by
  obtain ⟨n, ce', ch', w', e', h', a1, a2, a3, a4, a5⟩ := r.run w ce ch h1 h2
  obtain ⟨tr, ht⟩ := exOps_tr a1
  exact ⟨n, tr, ce', ch', w', e', h', ht, by cases l <;> trivial, fun hl => by simp at hl, a2, a3, a4, a5⟩⟩
theorem WOG_last {l : List AOp} (r : WO2 T k l e h K) : WOG T k s [false] l e h K := ⟨fun w ce ch c h1 h2 _ _ => by
  obtain ⟨n, ce', ch', w', e', h', a1, a2, a3, a4, a5⟩ := r.run w ce ch h1 h2
  obtain ⟨tr, ht⟩ := exOps_tr a1
  refine ⟨n, tr, ce', ch', w', e', h', ht, ?_, fun hl => ?_, a2, a3, a4, a5⟩
  rotate_left
  · have : l = [] := List.length_eq_zero_iff.1 (by simpa using hl)
    subst this
    cases ht; rfl
  match l, tr, ht with
  | [], _, _ => trivial
  | o :: l, [], _ => trivial
  | o :: l, x :: tr, ht =>
    refine ⟨⟨?_, fun hb => by cases hb⟩, by cases l <;> trivial⟩
    simp only [exTr] at ht
    split at ht
    · split at ht
      · cases ht; rfl
      · cases ht
    · cases ht⟩
theorem WOG_step {fl : List Bool} {b : Bool} {o : AOp} {l : List AOp} (hs : ∀ w ce ch c, RH w h ch → RE w h.length e ce → (∃ b, h[s]? = some (some b)) → w.ρ s = some c → ∃ n cv ch' w' e' h', stepOp (exN T n) o ce ch = some (cv, ch') ∧
      (b = true → guarded ce o.g = some false ∨ guarded ce o.g = some true ∧ ∀ ch2 : AH, ch2.blk c = ch.blk c → ∃ h2, aop o.o ce ch2 = some (cv, h2)) ∧ RH w' h' ch' ∧ RE w' h'.length e' (eput ce o.d cv) ∧ Fr k w h ch w' h' ch' ∧ ch'.blk c = ch.blk c ∧ (∃ b, h'[s]? = some (some b)) ∧ w'.ρ s = some c ∧ WOG T k s fl l e' h' K) :
    WOG T k s (b :: fl) (o :: l) e h K := ⟨fun w ce ch c h1 h2 h3 h4 => by
  obtain ⟨n, cv, ch1, w1, e1, h1', a1, a2, a3, a4, a5, a6, a7, a8, a9⟩ := hs w ce ch c h1 h2 h3 h4
  obtain ⟨m, tr, ce2, ch2, w2, e2, h2', b1, b2, b0, b3, b4, b5, b6⟩ := a9.run w1 _ ch1 c a3 a4 a7 a8
  refine ⟨max n m, (ce, ch, cv) :: tr, ce2, ch2, w2, e2, h2', ?_, ⟨⟨rfl, a2⟩, by rw [← a6]; exact b2⟩, fun hl => (b0 (by simpa using hl)).trans a6, b3, b4, b5, a5.trans b6⟩
  simp only [exTr, stepOp_le (exN_le (Nat.le_max_left n m)) a1]
  rw [exTr_le (exN_le (Nat.le_max_right n m)) b1]⟩
def CKG (T : AT) (k s : Nat) (fl : List Bool) (K : SE → SH → Prop) (e : SE) (h : SH) (p : Stop2) : Prop :=
  ∀ w ce ch c cargs, RH w h ch → RE w h.length e ce → (∃ b, h[s]? = some (some b)) → w.ρ s = some c → P2 (RS w h.length) p.args cargs → ∃ n cv ch' w' e' h', exN T n p.f cargs ch = some (cv, ch') ∧ RH w' h' ch' ∧ RE w' h'.length e' (eput ce p.d cv) ∧ Fr k w h ch w' h' ch' ∧ ch'.blk c = ch.blk c ∧ (∃ b, h'[s]? = some (some b)) ∧ w'.ρ s = some c ∧ WOG T k s fl p.rest e' h' K
inductive St3 where
  | go (e : SE) (h : SH) (fl : List Bool)
  | stop (e : SE) (h : SH) (p : Stop2) (fl : List Bool)
  | bad
def St3.of : St2 → List Bool → St3
  | .go e h, fl => .go e h fl
  | .stop e h p, fl => .stop e h p fl
  | .bad, _ => .bad
def rdrOk (s : Nat) (b : Bool) (op : AOp) (e : SE) : Bool :=
  match b with
  | false => true
  | true => match guardP e op.g with | some P => rdB s P e op.o | none => false
def stpG (s : Nat) (st : St3) (op : AOp) : St3 :=
  match st with
  | .bad => .bad
  | .stop e h p fl => .stop e h ⟨p.d, p.f, p.args, p.rest ++ [op]⟩ fl
  | .go e h fl =>
    match fl with
    | [] => .of (stpA (.go e h) op) []
    | b :: fl =>
      match fl with
      | [] => (match b with | false => .of (stpA (.go e h) op) [] | true => .bad)
      | b2 :: fl =>
        match quietOp op.o with
        | true => (match rdrOk s b op e with | true => .of (stpA (.go e h) op) (b2 :: fl) | false => .bad)
        | false =>
          match b with
          | true => .bad
          | false =>
            match guardP e op.g with
            | none => .bad
            | some P =>
              match P.all id with
              | true =>
                match nxt2 op.o (SE.und P e) with
                | .call f args => .stop e h ⟨op.d, f, args, []⟩ (b2 :: fl)
                | .go =>
                  match aop2 op.o (SE.und P e) (h.set s none), bAt h s with
                  | some (v, h'), some b0 => .go (epu e op.d v) (h'.set s (some b0)) (b2 :: fl)
                  | _, _ => .bad
                | .bad => .bad
              | false => .go (epu e op.d (.tup [])) h (b2 :: fl)
def runG (s : Nat) (l : List AOp) (e : SE) (h : SH) (fl : List Bool) : St3 := l.foldl (stpG s) (.go e h fl)
theorem foldG_stop (e : SE) (h : SH) (fl : List Bool) : ∀ (l : List AOp) (p : Stop2), l.foldl (stpG s) (.stop e h p fl) = .stop e h ⟨p.d, p.f, p.args, p.rest ++ l⟩ fl
  | [], p => by simp
  | o :: l, p => by simp only [List.foldl_cons, stpG]; rw [foldG_stop e h fl l]; simp
theorem foldG_bad : ∀ (l : List AOp), l.foldl (stpG s) .bad = .bad
  | [] => rfl
  | o :: l => by simp only [List.foldl_cons, stpG]; exact foldG_bad l
/-- what is wanted where such a run ends -/
def EndG (T : AT) (k s : Nat) (K : SE → SH → Prop) : St3 → Prop
  | .go e h _ => K e h
  | .stop e h p [] => CK T k K e h (some p)
  | .stop e h p (b :: fl) => CKG T k s (b :: fl) K e h p
  | .bad => False
/-- behind the states that are looked at the run is as ever -/
theorem foldG_nil : ∀ (l : List AOp) (st : St2), l.foldl (stpG s) (.of st []) = .of (l.foldl stpA st) []
  | [], st => rfl
  | o :: l, st => by
    rw [List.foldl_cons, List.foldl_cons, ← foldG_nil l]
    cases st <;> rfl
theorem runA_end {l : List AOp} {st : St2} {e : SE} {h : SH} (hr : l.foldl stpA (.go e h) = st) (hk : EndG T k s K (.of st [])) : WO2 T k l e h K := by
  cases st with
  | go e' h' => exact run2a_sound (e' := e') (h' := h') (s := none) (by simp only [run2a, hr, endS]) hk
  | stop e' h' p => exact run2a_sound (e' := e') (h' := h') (s := some p) (by simp only [run2a, hr, endS]) hk
  | bad => exact hk.elim
theorem quiet_heap {o : AO} {e : SE} {h h' : SH} {v : SV} (ho : aop2 o e h = some (v, h')) (hq : quietOp o = true) : h' = h := by
  cases o <;> first | (simp [quietOp] at hq; done) | exact (ph_eq ho).2 | skip
  · cases ho; rfl
  · simp only [aop2] at ho; split at ho <;> cases ho <;> rfl
theorem stpA_quiet {d : Option Nat} {g : Option (Nat × Bool)} {o : AO} (hq : quietOp o = true) : stpA (.go e h) ⟨d, g, o⟩ = .bad ∨ ∃ v, stpA (.go e h) ⟨d, g, o⟩ = .go (epu e d v) h ∧
    ∀ w ce ch, RH w h ch → RE w h.length e ce → ∃ cv, (∀ C, stepOp C ⟨d, g, o⟩ ce ch = some (cv, ch)) ∧ RS w h.length v cv := by
  have hnc : ∀ C ce ch, exOp C o ce ch = aop o ce ch := fun C ce ch => by cases o <;> first | rfl | (simp [quietOp] at hq; done)
  have hng : nxt2 o e = .go := by cases o <;> first | rfl | (simp [quietOp] at hq; done)
  have key : ∀ (P : List Bool) v h', stepA P o e h = some (v, h') → h' = h ∧ ∀ w ce ch, RH w h ch → RE w h.length e ce → P.all id = true → ∃ cv, aop o ce ch = some (cv, ch) ∧ RS w h.length v cv := fun P v h' ha => by
    unfold stepA at ha
    split at ha
    · obtain ⟨ha2, rfl⟩ := ph_eq ha
      exact ⟨rfl, fun w ce ch h1 h2 hp => pickV_ok hp h2 ha2⟩
    · exact ⟨quiet_heap ha hq, fun w ce ch h1 h2 hp => aop2_quiet h1 (und_re hp h2) ha hq⟩
  cases hg : guardP e g with
  | none => exact .inl (by simp only [stpA, hg])
  | some P =>
    cases P with
    | nil =>
      cases ha : stepA [] o e h with
      | none => exact .inl (by simp only [stpA, hg, hng, ha])
      | some x =>
        obtain ⟨v, h'⟩ := x
        obtain ⟨rfl, hk⟩ := key [] v h' ha
        refine .inr ⟨v, by simp only [stpA, hg, hng, ha], fun w ce ch h1 h2 => ?_⟩
        obtain ⟨cv, a1, a2⟩ := hk w ce ch h1 h2 rfl
        exact ⟨cv, fun C => by simp only [stepOp, guardP_ok h2 hg, List.all_nil, hnc]; exact a1, a2⟩
    | cons b P =>
      have hskip : ∀ v, (∀ w ce ch, RH w h ch → RE w h.length e ce → (b :: P).all id = true → ∃ cv, aop o ce ch = some (cv, ch) ∧ RS w h.length v cv) → ∀ w ce ch, RH w h ch → RE w h.length e ce → ∃ cv, (∀ C, stepOp C ⟨d, g, o⟩ ce ch = some (cv, ch)) ∧ RS w h.length (.alt (b :: P) v) cv := fun v hv w ce ch h1 h2 => by
        cases hall : (b :: P).all id with
        | true =>
          obtain ⟨cv, a1, a2⟩ := hv w ce ch h1 h2 hall
          exact ⟨cv, fun C => by simp only [stepOp, guardP_ok h2 hg, hall, hnc]; exact a1, .altT hall a2⟩
        | false => exact ⟨.tup [], fun C => by simp only [stepOp, guardP_ok h2 hg, hall], .altF hall⟩
      cases ha : stepA (b :: P) o e h with
      | none =>
        cases hall : (b :: P).all id with
        | true => exact .inl (by simp only [stpA, hg, hq, ha, hall, if_true])
        | false => exact .inr ⟨.alt (b :: P) .un, by simp only [stpA, hg, hq, ha, hall, if_true]; simp, hskip .un fun w ce ch h1 h2 h3 => by rw [hall] at h3; cases h3⟩
      | some x =>
        obtain ⟨v, h'⟩ := x
        obtain ⟨rfl, hk⟩ := key _ v h' ha
        exact .inr ⟨.alt (b :: P) v, by simp only [stpA, hg, hq, ha, if_true], hskip v hk⟩
theorem runG_sound : ∀ {l : List AOp} {e : SE} {h : SH} {fl : List Bool}, EndG T k s K (runG s l e h fl) → WOG T k s fl l e h K
  | l, e, h, [], hk => by
    refine WOG_end (runA_end (s := s) rfl ?_)
    rw [runG, show St3.go e h [] = .of (.go e h) [] from rfl, foldG_nil] at hk
    exact hk
  | [], e, h, b :: fl, hk => ⟨fun w ce ch c h1 h2 _ _ => ⟨0, [], ce, ch, w, e, h, rfl, trivial, fun _ => rfl, hk, h1, h2, .refl _ _ _ _⟩⟩
  | o :: l, e, h, [b], hk => by
    cases b with
    | true => simp only [runG, List.foldl_cons, stpG, foldG_bad] at hk; exact hk.elim
    | false =>
      refine WOG_last (runA_end (s := s) rfl ?_)
      simp only [runG, List.foldl_cons, stpG] at hk
      rw [foldG_nil] at hk
      rw [List.foldl_cons]; exact hk
  | ⟨d, g, o⟩ :: l, e, h, b :: b2 :: fl, hk => by
    simp only [runG, List.foldl_cons, stpG] at hk
    split at hk
    · rename_i hq
      split at hk
      · rename_i hrd
        rcases stpA_quiet (e := e) (h := h) (d := d) (g := g) hq with hb | ⟨v, hb, hv⟩
        · rw [hb] at hk
          simp only [St3.of, foldG_bad] at hk; exact hk.elim
        · rw [hb] at hk
          refine WOG_step fun w ce ch c h1 h2 h3 h4 => ?_
          obtain ⟨cv, a1, a2⟩ := hv w ce ch h1 h2
          refine ⟨0, cv, ch, w, _, h, a1 _, fun hbt => ?_, h1, h2.put a2 d, .refl _ _ _ _, rfl, h3, h4, runG_sound hk⟩
          subst hbt
          simp only [rdrOk] at hrd
          split at hrd
          · rename_i P hg
            have hgc := guardP_ok h2 hg
            cases hall : P.all id with
            | false => exact .inl (hgc.trans (by rw [hall]))
            | true =>
              rw [hall] at hgc
              have a1 := a1 (fun _ _ _ => none)
              simp only [stepOp, hgc] at a1
              have hnc : exOp (fun _ _ _ => none) o ce ch = aop o ce ch := by cases o <;> first | rfl | (simp [quietOp] at hq; done)
              rw [hnc] at a1
              exact .inr ⟨hgc, fun ch2 h5 => rd_at hall h2 h4 hrd h5 a1⟩
          · cases hrd
      · rw [foldG_bad] at hk; exact hk.elim
    · rename_i hq
      split at hk
      · rw [foldG_bad] at hk; exact hk.elim
      · split at hk
        · rw [foldG_bad] at hk; exact hk.elim
        · rename_i P hg
          split at hk
          · rename_i hall
            split at hk
            · rename_i hc
              rw [foldG_stop] at hk
              refine WOG_step fun w ce ch c h1 h2 h3 h4 => ?_
              obtain ⟨cargs, q1, q2⟩ := nxt2_call (und_re hall h2) hc
              obtain ⟨n, cv, ch', w', e', h', a1, a2, a3, a4, a5, a6, a7, a8⟩ := hk w ce ch c cargs h1 h2 h3 h4 q2
              refine ⟨n, cv, ch', w', e', h', ?_, (by intro h; cases h), a2, a3, a4, a5, a6, a7, by simpa using a8⟩
              simp only [stepOp, guardP_ok h2 hg, hall, q1]
              exact a1
            · rename_i hc
              split at hk
              · rename_i v h1' b0 ha hb0
                refine WOG_step fun w ce ch c h1 h2 h3 h4 => ?_
                have hs := bAt_eq hb0
                obtain ⟨cv, ch', w', a1, a2, a3, a4, a5, a6⟩ := aop2_sound (k := k) (h1.hid s) (by rw [List.length_set]; exact und_re hall h2) ha
                rw [List.length_set] at a4 a5
                obtain ⟨b1, b2, b3⟩ := h1.unhid hs h4 a2 a4 a5 a6
                refine ⟨0, cv, ch', w', _, _, ?_, (by intro h; cases h), b1, ?_, b2, b3, ⟨b0, ?_⟩, (a4.ρ s (live_lt hs)).trans h4, runG_sound hk⟩
                · simp only [stepOp, guardP_ok h2 hg, hall, nxt2_go hc]
                  exact a1
                · rw [List.length_set]; exact (h2.mono a4 a5).put a3 d
                · rw [List.getElem?_set_self (by have := live_lt hs; omega)]
              · rw [foldG_bad] at hk; exact hk.elim
            · rw [foldG_bad] at hk; exact hk.elim
          · rename_i hall
            refine WOG_step fun w ce ch c h1 h2 h3 h4 => ?_
            refine ⟨0, .tup [], ch, w, _, h, ?_, (by intro h; cases h), h1, h2.put (.tup rfl (by intro j; simp)) d, .refl _ _ _ _, rfl, h3, h4, runG_sound hk⟩
            simp only [stepOp, guardP_ok h2 hg, hall]
theorem W2_regG {ops : List AOp} {rc : List (Nat × Nat)} {kp : List Nat} (s : Nat) (fl : List Bool) (hb : rcB ops.length fl rc = true) (hs : (bAt h s).isSome = true) (hv : ∀ esz, bAt h s ≠ some (.arr esz [])) {st : St3} (hr : runG s ops e h fl = st)
    (hk : EndG T k s (fun e' h' => Q .nrm (kp.map fun s => (s, eg e' s)) h') st) : W2 T k (.regd ops rc kp) e h Q := by
  subst hr
  refine ⟨fun w ce ch h1 h2 => ?_⟩
  obtain ⟨b, hs⟩ := Option.isSome_iff_exists.1 hs
  have hsb := bAt_eq hs
  cases hc : w.ρ s with
  | none =>
    obtain ⟨esz, rfl⟩ := h1.vir s b hsb hc
    exact (hv esz hs).elim
  | some c =>
    obtain ⟨n, tr, ce1, ch1, w1, e1, h1', a1, a2, a0, a3, a4, a5, a6⟩ := (runG_sound hk).run w ce ch c h1 h2 ⟨b, hsb⟩ hc
    exact ⟨n, .nrm, _, ch1, w1, _, h1', by simp only [exC, a1, rc_ok a2 a0 (exTr_len a1) hb, if_true], a3, a4, keep2 a5 kp, a6⟩
theorem W2_sregG {ops : List AOp} {rc : List (Nat × Nat)} {kp : List Nat} {c : AC} (s : Nat) (fl : List Bool) (hb : rcB ops.length fl rc = true) (hs : (bAt h s).isSome = true) (hv : ∀ esz, bAt h s ≠ some (.arr esz [])) {st : St3} (hr : runG s ops e h fl = st)
    (hk : EndG T k s (fun e' h' => W2 T k c (kp.map fun s => (s, eg e' s)) h' Q) st) : W2 T k (.seq (.regd ops rc kp) c) e h Q := W2_seq (W2_regG s fl hb hs hv hr hk)
theorem WOG_go {l : List AOp} {fl : List Bool} {st : St3} (hr : runG s l e h fl = st) (hk : EndG T k s K st) : WOG T k s fl l e h K := by subst hr; exact runG_sound hk
theorem EG_ck {p : Stop2} (hk : CK T k K e h (some p)) : EndG T k s K (.stop e h p []) := hk
theorem EG_go {fl : List Bool} (hk : K e h) : EndG T k s K (.go e h fl) := hk
theorem back_out {σ : List Nat} {k' : Nat} {h1 : SH} {b : B2} (hi : idx σ s = none) (hb : h[s]? = some (some b)) : ∃ b', (back σ k' h h1)[s]? = some (some b') := by
  have : ∀ (l : SH) (i j : Nat), idx σ (i + j) = none → l[j]? = some (some b) → (back1 σ k' h.length h1 i l)[j]? = some (some (b.cv (kills (σ.drop k')))) := fun l => by
    induction l with
    | nil => intro i j _ hj; simp at hj
    | cons x l ih =>
      intro i j hx hj
      cases j with
      | zero =>
        simp at hj
        subst hj
        simp only [Nat.add_zero] at hx
        simp only [back1, hx, List.getElem?_cons_zero, Option.map_some]
      | succ j =>
        simp only [back1, List.getElem?_cons_succ]
        exact ih (i + 1) j (by rw [← hx]; congr 1; omega) (by simpa using hj)
  refine ⟨b.cv (kills (σ.drop k')), ?_⟩
  have h2 := this h 0 s (by simpa using hi) hb
  unfold back
  rw [List.getElem?_append_left (List.getElem?_eq_some_iff.1 h2).1]
  exact h2
/-- a call that doesn't reach the block that is looked at -/
theorem EG_call {k' : Nat} {d : Option Nat} {g : Nat} {args : List SV} {rest : List AOp} {args0 : List SV} {h0 : SH} {R : SV → SH → Prop} {b : Bool} {fl : List Bool} (σ : List Nat) (spec : Ret2 T k' g args0 h0 R) (hn : σ.Nodup) (hσ : ∀ x ∈ σ, x < h.length) (hp : pinsOk k k' σ = true) (hi : idx σ s = none)
    (ha : SV.cvs (idx σ) args = args0) (hh : view σ h = h0) (hk : ∀ v h', R v h' → WOG T k s (b :: fl) rest (epu (e.cv (kills (σ.drop k'))) d (v.cv (gback σ h.length))) (back σ k' h h') K) :
    EndG T k s K (.stop e h ⟨d, g, args, rest⟩ (b :: fl)) := by
  subst ha
  subst hh
  intro w ce ch c cargs r he ⟨b0, hb0⟩ hc hargs
  obtain ⟨n, cv, ch1, w1, v, h1, b1, b2, b3, b4, b5⟩ := spec.run (w.vw σ h.length) cargs ch (r.view hn) (hargs.cv view_cv)
  obtain ⟨c1, c2, c3, c4⟩ := r.back hn b3 b5 hp hσ
  refine ⟨n, cv, ch1, _, _, _, b1, c1, (he.cv c3).put (b4.cv c2) d, c4, ?_, back_out hi hb0, ?_, hk v h1 b2⟩
  · refine b5.same c (r.lv hb0 hc) fun j b hj hρ => ?_
    obtain ⟨i, b1, a1, a2, rfl⟩ := view_get hj
    rw [vw_ρ a1 (live_lt a2)] at hρ
    have := r.inj i s _ _ c a2 hb0 hρ hc
    subst this
    rw [idx_of hn a1] at hi; cases hi
  · simp only [Wd.bk, hi]; rw [if_pos (live_lt hb0)]; exact hc
theorem EG_pure {k' : Nat} {d : Option Nat} {g : Nat} {args : List SV} {rest : List AOp} {args0 : List SV} {R : SV → SH → Prop} {b : Bool} {fl : List Bool} (spec : Ret2 T k' g args0 [] R) (ha : SV.cvs (idx []) args = args0)
    (hk : ∀ v h', R v h' → WOG T k s (b :: fl) rest (epu e d (v.cv (gback [] h.length))) (h ++ SH.cv (gback [] h.length) h') K) : EndG T k s K (.stop e h ⟨d, g, args, rest⟩ (b :: fl)) := by
  refine EG_call [] spec List.nodup_nil (by simp) (by simp [pinsOk]) rfl ha rfl fun v h' hr => ?_
  have := hk v h' hr
  rw [back_nil]
  rw [show e.cv (kills (List.drop k' [])) = e from by rw [List.drop_nil]; exact cve_all kills_nil e]
  exact this
/-- what is handed over stays for good -/
theorem CK_frz {d : Option Nat} {g : Nat} {args args' : List SV} {rest : List AOp} (id : Nat) (hl : (bAt h id).isSome = true) (ha : SV.frzs h id args = args') (he : SE.frz h id e = e') (hh : SH.frz id h = h') (hk : CK T k K e' h' (some ⟨d, g, args', rest⟩)) :
    CK T k K e h (some ⟨d, g, args, rest⟩) := by
  subst ha; subst he; subst hh
  intro w ce ch cargs r he hargs
  obtain ⟨w', f, r', f'⟩ := frz_world (k := k) id hl r
  obtain ⟨n, cv, ch1, w1, e1, h1, a1, a2, a3, a4, a5⟩ := hk w' ce ch cargs r' (by rw [frz_len]; exact he.frz f) (by rw [frz_len]; exact hargs.frz f)
  exact ⟨n, cv, ch1, w1, e1, h1, a1, a2, a3, f'.trans a4, a5⟩
theorem WOG_frz {l : List AOp} {fl : List Bool} (id : Nat) (hl : (bAt h id).isSome = true) (hne : s ≠ id) (he : SE.frz h id e = e') (hh : SH.frz id h = h') (hk : WOG T k s fl l e' h' K) : WOG T k s fl l e h K := by
  subst he; subst hh
  refine ⟨fun w ce ch c r1 r2 ⟨b, hb⟩ hc => ?_⟩
  obtain ⟨w', f, r', f'⟩ := frz_world (k := k) id hl r1
  have hb' : (SH.frz id h)[s]? = some (some (b.frz h id)) := by
    rw [SH.frz, List.getElem?_set_ne (fun e => hne e.symm), List.getElem?_map, hb]; rfl
  obtain ⟨n, tr, ce', ch', w2, e2, h2, a1, a2, a3, a4, a5, a6, a7⟩ := hk.run w' ce ch c r' (by rw [frz_len]; exact r2.frz f) ⟨_, hb'⟩ (by rw [f.ρ]; exact hc)
  exact ⟨n, tr, ce', ch', w2, e2, h2, a1, a2, a3, a4, a5, a6, f'.trans a7⟩
theorem WO2_wk {l : List AOp} (a : Wk k e h e' h') (b : WO2 T k l e' h' K) : WO2 T k l e h K := by
  refine ⟨fun w ce ch r1 r2 => ?_⟩
  obtain ⟨w', a1, a2, a3⟩ := a w ce ch r1 r2
  obtain ⟨n, ce2, ch2, w2, e2, h2, b1, b2, b3, b4, b5⟩ := b.run w' ce ch a1 a2
  exact ⟨n, ce2, ch2, w2, e2, h2, b1, b2, b3, b4, a3.trans b5⟩
theorem WO2_frz {l : List AOp} (id : Nat) (hl : (bAt h id).isSome = true) (he : SE.frz h id e = e') (hh : SH.frz id h = h') (hk : WO2 T k l e' h' K) : WO2 T k l e h K := by
  subst he; subst hh
  exact WO2_wk (Wk.frz id hl) hk
/-- a fact that is told -/
theorem always2 {f : Nat} (hT : T f = some (.spec (always (.b true)))) : Ret2 T 0 f [] [] (fun v h' => v = .b true ∧ h' = []) :=
  Ret2_spec hT (v := .b true) (fun w cargs hp => by
    have : cargs = [] := List.length_eq_zero_iff.1 hp.1.symm
    subst this
    exact ⟨.b true, rfl, .p (.b _)⟩) ⟨rfl, rfl⟩
end
attribute [go_sem] runG stpG St3.of rdrOk rdB Bool.not_eq_true
end Go.Proofs.Ytadbipeachcekaa.Ab
/- The second machine: a loop told by what changes. -/
namespace Go.Proofs.Ytadbipeachcekaa.Ab
open Go
set_option linter.unusedVariables false
def egd : SE → Nat → SV → SV
  | [], _, v => v
  | (m, x) :: r, n, v => if m = n then x else egd r n v
/-- slots, some of them otherwise -/
def supE (u : SE) : SE → SE
  | [] => []
  | (n, v) :: r => (n, egd u n v) :: supE u r
def hgd : List (Nat × B2) → Nat → Option B2 → Option B2
  | [], _, b => b
  | (m, x) :: r, n, b => if m = n then some x else hgd r n b
/-- blocks, some of them otherwise -/
def supH (g : List (Nat × B2)) : Nat → SH → SH
  | _, [] => []
  | i, b :: r => hgd g i b :: supH g (i + 1) r
section
variable {T : AT} {k : Nat} {Q : XT → SE → SH → Prop} {e e' : SE} {h h' : SH}
theorem W2_loopu {b : AC} (I : Nat → SE → List (Nat × B2) → Prop) (m : Nat) {u0 : SE} {g0 : List (Nat × B2)} (h0 : I m u0 g0) (he : supE u0 e = e) (hh : supH g0 0 h = h)
    (hb : ∀ m u g, I m u g → ∀ e1 h1, supE u e = e1 → supH g 0 h = h1 → W2 T k b e1 h1 (thn2 (fun e' h' => ∃ σ : List Nat, σ.Nodup ∧ pinOk k σ = true ∧ ∃ m' u' g', m' < m ∧ I m' u' g' ∧ SE.cv (idx σ) e' = supE u' e ∧ view σ h' = supH g' 0 h) Q)) : W2 T k (.loop b) e h Q := by
  refine W2_loopv (fun m e1 h1 => ∃ u g, I m u g ∧ supE u e = e1 ∧ supH g 0 h = h1) m ⟨u0, g0, h0, he, hh⟩ fun m e1 h1 ⟨u, g, a1, a2, a3⟩ => (hb m u g a1 e1 h1 a2 a3).mono fun t e2 h2 hq => ?_
  cases t with
  | nrm =>
    obtain ⟨σ, b1, b2, m', u', g', b3, b4, b5, b6⟩ := hq
    exact ⟨σ, b1, b2, m', b3, u', g', b4, b5.symm, b6.symm⟩
  | ret => exact hq
  | ex i => exact hq
end
/-- a struct or an array of numbers, cell by cell -/
def cJ (x : Int) : SV := .i .i64 x
theorem cvs_cJ (f : Nat → Option Nat) (l : List Int) : SV.cvs f (l.map cJ) = l.map cJ := cvs_mp f (fun x => PV.i .i64 x) l
theorem frzs_cJ (h : SH) (i : Nat) (l : List Int) : SV.frzs h i (l.map cJ) = l.map cJ := frzs_mp h i (fun x => PV.i .i64 x) l
theorem set_cJ (l : List Int) (k : Nat) (x : Int) : (l.map cJ).set k (.p (.i .i64 x)) = (l.set k x).map cJ := (List.map_set (f := cJ)).symm
theorem any_cJ (l : List Int) : (l.map cJ).any SV.isUn = false := by
  induction l with
  | nil => rfl
  | cons x l ih => rw [List.map_cons, List.any_cons, ih]; rfl
attribute [go_sem] cvs_cJ frzs_cJ set_cJ any_cJ
attribute [go_sem] egd supE hgd supH List.length_nil Int.natCast_zero
attribute [go_sem_proc] Int.reduceGT Int.reduceGE
end Go.Proofs.Ytadbipeachcekaa.Ab
/- The second machine: maps whose keys are numbers, as lists of things. -/
namespace Go.Proofs.Ytadbipeachcekaa.Ab
open Go
set_option linter.unusedVariables false
theorem map_erase {α β : Type} (f : α → β) : ∀ (l : List α) (i : Nat), (l.map f).eraseIdx i = (l.eraseIdx i).map f
  | [], i => by simp
  | x :: l, 0 => by simp
  | x :: l, i + 1 => by simp [map_erase f l i]
section
variable {α : Type}
/-- the first thing of a key, and its place -/
def findX (key : α → Int) (k : Int) : List α → Nat → Option (Nat × α)
  | [], _ => none
  | x :: r, j => if key x = k then some (j, x) else findX key k r (j + 1)
/-- an entry: a number, and one cell -/
def mP (key : α → Int) (g : α → PV) (x : α) : SV × SV := (.p (.i .i64 (key x)), .p (g x))
/-- an entry: a number, and several cells -/
def mA (key : α → Int) (g : α → List PV) (x : α) : SV × SV := (.p (.i .i64 (key x)), .agg ((g x).map .p))
theorem keyq2_i (k x : Int) : keyq2 (.sc .it) (.p (.i .i64 k)) (.p (.i .i64 x)) = some (decide (k = x)) := by
  simp [keyq2, key2, sc, keyq, sceq]
theorem kfind2_P (key : α → Int) (g : α → PV) (k : Int) : ∀ (l : List α) (j : Nat), kfind2 (.sc .it) (.p (.i .i64 k)) (l.map (mP key g)) j = some ((findX key k l j).map fun p => (p.1, .p (g p.2)))
  | [], j => rfl
  | x :: l, j => by
    simp only [List.map_cons, mP, kfind2, keyq2_i]
    by_cases h : key x = k
    · rw [decide_eq_true h.symm]
      simp [findX, h]
    · rw [decide_eq_false (fun e => h e.symm)]
      simp only [findX, h, if_false]
      exact kfind2_P key g k l (j + 1)
theorem kfind2_A (key : α → Int) (g : α → List PV) (k : Int) : ∀ (l : List α) (j : Nat), kfind2 (.sc .it) (.p (.i .i64 k)) (l.map (mA key g)) j = some ((findX key k l j).map fun p => (p.1, .agg ((g p.2).map .p)))
  | [], j => rfl
  | x :: l, j => by
    simp only [List.map_cons, mA, kfind2, keyq2_i]
    by_cases h : key x = k
    · rw [decide_eq_true h.symm]
      simp [findX, h]
    · rw [decide_eq_false (fun e => h e.symm)]
      simp only [findX, h, if_false]
      exact kfind2_A key g k l (j + 1)
theorem mfind_P (key : α → Int) (g : α → PV) (k : Int) (l : List α) : mfind (.sc .it) (.p (.i .i64 k)) (l.map (mP key g)) = some ((findX key k l 0).map fun p => (p.1, .p (g p.2))) := by
  rw [mfind, if_pos (by simp [kok2, key2, sc, kok, conf1]), kfind2_P]
theorem mfind_A (key : α → Int) (g : α → List PV) (k : Int) (l : List α) : mfind (.sc .it) (.p (.i .i64 k)) (l.map (mA key g)) = some ((findX key k l 0).map fun p => (p.1, .agg ((g p.2).map .p))) := by
  rw [mfind, if_pos (by simp [kok2, key2, sc, kok, conf1]), kfind2_A]
theorem cv_mP (f : Nat → Option Nat) (key : α → Int) (g : α → PV) (l : List α) : B2.cv f (.map (l.map (mP key g))) = .map (l.map (mP key g)) := by
  simp only [B2.cv, List.map_map]
  congr 1
theorem cv_mA (f : Nat → Option Nat) (key : α → Int) (g : α → List PV) (l : List α) : B2.cv f (.map (l.map (mA key g))) = .map (l.map (mA key g)) := by
  simp only [B2.cv, List.map_map]
  congr 1
  apply List.map_congr_left
  intro x _
  simp only [Function.comp, mA, SV.cv, cvs_p]
theorem frz_mP (h : SH) (i : Nat) (key : α → Int) (g : α → PV) (l : List α) : B2.frz h i (.map (l.map (mP key g))) = .map (l.map (mP key g)) := by
  simp only [B2.frz, List.map_map]
  congr 1
theorem frz_mA (h : SH) (i : Nat) (key : α → Int) (g : α → List PV) (l : List α) : B2.frz h i (.map (l.map (mA key g))) = .map (l.map (mA key g)) := by
  simp only [B2.frz, List.map_map]
  congr 1
  apply List.map_congr_left
  intro x _
  simp only [Function.comp, mA, SV.frz, frzs_p]
theorem cvm_mP (f : Nat → Option Nat) (key : α → Int) (g : α → PV) (l : List α) : (l.map (mP key g)).map (fun x => (x.1.cv f, x.2.cv f)) = l.map (mP key g) := by
  simp only [List.map_map]; congr 1
theorem cvm_mA (f : Nat → Option Nat) (key : α → Int) (g : α → List PV) (l : List α) : (l.map (mA key g)).map (fun x => (x.1.cv f, x.2.cv f)) = l.map (mA key g) := by
  simp only [List.map_map]
  apply List.map_congr_left
  intro x _
  simp only [Function.comp, mA, SV.cv, cvs_p]
theorem frzm_mP (h : SH) (i : Nat) (key : α → Int) (g : α → PV) (l : List α) : (l.map (mP key g)).map (fun x => (x.1.frz h i, x.2.frz h i)) = l.map (mP key g) := by
  simp only [List.map_map]; congr 1
theorem frzm_mA (h : SH) (i : Nat) (key : α → Int) (g : α → List PV) (l : List α) : (l.map (mA key g)).map (fun x => (x.1.frz h i, x.2.frz h i)) = l.map (mA key g) := by
  simp only [List.map_map]
  apply List.map_congr_left
  intro x _
  simp only [Function.comp, mA, SV.frz, frzs_p]
theorem findX_none {key : α → Int} {k : Int} : ∀ {l : List α} {j : Nat}, findX key k l j = none ↔ ∀ x ∈ l, key x ≠ k
  | [], j => by simp [findX]
  | x :: l, j => by
    simp only [findX]
    split
    · rename_i h; simp [h]
    · rename_i h; rw [findX_none]; simp [h]
theorem findX_some {key : α → Int} {k : Int} : ∀ {l : List α} {j i : Nat} {x : α}, findX key k l j = some (i, x) → j ≤ i ∧ l[i - j]? = some x ∧ key x = k
  | [], j, i, x, h => by simp [findX] at h
  | y :: l, j, i, x, h => by
    simp only [findX] at h
    split at h
    · rename_i hk
      simp only [Option.some.injEq, Prod.mk.injEq] at h
      obtain ⟨rfl, rfl⟩ := h
      exact ⟨Nat.le_refl _, by simp, hk⟩
    · obtain ⟨h1, h2, h3⟩ := findX_some h
      refine ⟨by omega, ?_, h3⟩
      rw [show i - j = (i - (j + 1)) + 1 by omega, List.getElem?_cons_succ]
      exact h2
theorem findX_mem {key : α → Int} {k : Int} {l : List α} {i : Nat} {x : α} (h : findX key k l 0 = some (i, x)) : x ∈ l ∧ key x = k ∧ l[i]? = some x := by
  obtain ⟨_, h2, h3⟩ := findX_some h
  rw [Nat.sub_zero] at h2
  exact ⟨List.mem_of_getElem? h2, h3, h2⟩
/-- of keys that are unlike, the one of a key is found -/
theorem findX_of {key : α → Int} {l : List α} (hn : (l.map key).Nodup) {x : α} (hx : x ∈ l) : ∃ i, findX key (key x) l 0 = some (i, x) ∧ l[i]? = some x := by
  cases hf : findX key (key x) l 0 with
  | none => exact (findX_none.1 hf x hx rfl).elim
  | some p =>
    obtain ⟨i, y⟩ := p
    obtain ⟨h1, h2, h3⟩ := findX_mem hf
    have : y = x := by
      obtain ⟨a, ha⟩ := List.mem_iff_getElem?.1 hx
      have e1 : (l.map key)[i]? = some (key x) := by rw [List.getElem?_map, h3]; simp [h2]
      have e2 : (l.map key)[a]? = some (key x) := by rw [List.getElem?_map, ha]; rfl
      have hi := (List.getElem?_eq_some_iff.1 e1).1
      have ha' := (List.getElem?_eq_some_iff.1 e2).1
      have := (List.getElem?_inj hi hn).1 (e1.trans e2.symm)
      subst this
      rw [h3] at ha; exact Option.some.inj ha
    subst this
    exact ⟨i, rfl, h3⟩
end
attribute [go_sem] map_erase mfind_P mfind_A cv_mP cv_mA frz_mP frz_mA cvm_mP cvm_mA frzm_mP frzm_mA lkp2 lkp2.zv mup2 del2 mapAt Option.map_some Option.map_none
end Go.Proofs.Ytadbipeachcekaa.Ab
/- The second machine: regions whose order is open, where nothing but new memory lies between the looks. -/
namespace Go.Proofs.Ytadbipeachcekaa.Ab
open Go
set_option linter.unusedVariables false
def AH.wf (h : AH) : Prop := ∀ id, h.next ≤ id → h.blk id = none
/-- memory with more in it -/
structure Ext (h h' : AH) : Prop where
  nx : h.next ≤ h'.next
  same : ∀ id, id < h.next → h'.blk id = h.blk id
theorem Ext.refl (h : AH) : Ext h h := ⟨Nat.le_refl _, fun _ _ => rfl⟩
theorem Ext.trans {a b c : AH} (x : Ext a b) (y : Ext b c) : Ext a c := ⟨Nat.le_trans x.nx y.nx, fun id hid => (y.same id (Nat.lt_of_lt_of_le hid x.nx)).trans (x.same id hid)⟩
def AOp.soft (x : AOp) : Bool := match x.o.kind with | .loud => false | _ => true
theorem soft_step {C : CallF} {x : AOp} {e : Env} {h h' : AH} {v : AV} (hs : x.soft = true) (hw : h.wf) (hr : stepOp C x e h = some (v, h')) : Ext h h' ∧ h'.wf := by
  have hk : x.o.kind ≠ .loud := fun e => by simp [AOp.soft, e] at hs
  unfold stepOp at hr
  split at hr
  · rw [exOp_aop hk] at hr
    cases hkd : x.o.kind with
    | loud => exact (hk hkd).elim
    | pure => rw [(pure_any hkd hr).1]; exact ⟨.refl _, hw⟩
    | reader => rw [reader_same hkd hr]; exact ⟨.refl _, hw⟩
    | alloc =>
      obtain ⟨B, V, rfl, _⟩ := alloc_any hkd hr
      refine ⟨⟨Nat.le_succ _, fun id hid => ?_⟩, fun id hid => ?_⟩
      · simp only [AH.alloc]; rw [if_neg (by omega)]
      · simp only [AH.alloc] at hid ⊢; rw [if_neg (by omega)]; exact hw id (by omega)
  · cases hr; exact ⟨.refl _, hw⟩
  · cases hr
/-- a reader gives the same where there is more memory -/
theorem reader_ext {o : AO} {e : Env} {h h2 h' : AH} {v : AV} (hk : o.kind = .reader) (hw : h.wf) (hx : Ext h h2) (hr : aop o e h = some (v, h')) : ∃ h3, aop o e h2 = some (v, h3) := by
  have hb : ∀ {id : Nat} {b : Blk}, h.blk id = some b → h2.blk id = some b := fun {id b} hb => by
    rw [hx.same id (by
      rcases Nat.lt_or_ge id h.next with hlt | hge
      · exact hlt
      · rw [hw id hge] at hb; cases hb)]
    exact hb
  cases o <;> simp only [AO.kind] at hk <;> try contradiction
  case ld sz a =>
    simp only [aop] at hr ⊢
    unfold aload at hr ⊢
    split at hr
    · rename_i id off e1 e2
      simp only [AH.rd, Option.map_eq_some_iff] at hr ⊢
      obtain ⟨y, hy, he⟩ := hr
      cases he
      split at hy
      · rename_i cs ro hbl
        rw [hb hbl]
        exact ⟨_, _, hy, rfl⟩
      · cases hy
    · rename_i id off n e1 e2
      simp only [AH.rdn, Option.map_eq_some_iff] at hr ⊢
      obtain ⟨y, hy, he⟩ := hr
      cases he
      split at hy
      · rename_i cs ro hbl
        rw [hb hbl]
        exact ⟨_, _, hy, rfl⟩
      · cases hy
    · cases hr
  case toStr x =>
    simp only [aop] at hr ⊢
    split at hr
    · rename_i n cs hsh
      have : ashow 1 (ev e x) h2 = some (n, cs) := by
        unfold ashow at hsh ⊢
        split at hsh
        · exact hsh
        · exact hsh
        · simp only [AH.rdn, Option.map_eq_some_iff] at hsh ⊢
          obtain ⟨y, hy, he⟩ := hsh
          cases he
          split at hy
          · rename_i cs' ro hbl
            rw [hb hbl]
            exact ⟨_, hy, rfl⟩
          · cases hy
        · exact hsh
        · cases hsh
      rw [this]
      simp only [pureh, Option.map_eq_some_iff] at hr ⊢
      obtain ⟨y, hy, he⟩ := hr
      cases he
      exact ⟨_, _, hy, rfl⟩
    · cases hr
  case lkp kk z ok m k =>
    simp only [aop] at hr ⊢
    unfold alookup at hr ⊢
    split at hr
    · split at hr
      · cases hr
        rename_i hkk
        exact ⟨_, by rw [if_pos hkk]⟩
      · cases hr
    · have hm : ∀ {x}, amapof (ev e m) h = some x → amapof (ev e m) h2 = some x := fun {x} hx => by
        unfold amapof at hx ⊢
        split at hx
        · split at hx
          · rename_i hbl
            rw [hb hbl]; exact hx
          · cases hx
        · cases hx
      split at hr
      · cases hr
      · rename_i hmm
        rw [hm hmm]
        simp only
        split at hr
        · cases hr
        · cases hr; exact ⟨_, rfl⟩
        · cases hr; exact ⟨_, rfl⟩
  case len k x =>
    cases k <;> simp at hk
    simp only [aop, pureh, alen] at hr ⊢
    cases hx2 : ev e x <;> simp only [hx2] at hr ⊢ <;> first | (simp at hr; done) | skip
    · simp at hr; exact ⟨h2, by simp [hr.1]⟩
    · rename_i id
      cases hbl : h.blk id with
      | none => simp [hbl] at hr
      | some b =>
        rw [hb hbl]
        rw [hbl] at hr
        simp only [Option.map_eq_some_iff] at hr ⊢
        obtain ⟨y, hy, he⟩ := hr
        cases he
        exact ⟨h2, _, hy, rfl⟩
/-- the states of a run whose first operations make memory at most -/
theorem tr_ext {C : CallF} : ∀ {l : List AOp} {e e' : Env} {h h' : AH} {tr : List (Env × AH × AV)} {m : Nat}, exTr C l e h = some (tr, e', h') → h.wf → (∀ (k : Nat) x, k < m → l[k]? = some x → x.soft = true) →
    ∀ (i p : Nat), i ≤ p → p ≤ m → ∀ s, tr[i]? = some s → ∃ H, (((tr[p]?).map fun x => x.2.1).getD h' = H ∨ (l.length < p)) ∧ s.2.1.wf ∧ Ext s.2.1 H
  | [], e, e', h, h', tr, m, hr, hw, hs, i, p, hip, hpm, s, hi => by
    cases hr; simp at hi
  | o :: l, e, e', h, h', tr, m, hr, hw, hs, i, p, hip, hpm, s, hi => by
    simp only [exTr] at hr
    split at hr
    · rename_i v h1 hst
      split at hr
      · rename_i tr1 e1 h2 ht
        cases hr
        cases i with
        | zero =>
          simp at hi; subst hi
          cases p with
          | zero => exact ⟨h, .inl (by simp), hw, .refl _⟩
          | succ p =>
            obtain ⟨x1, w1⟩ := soft_step (hs 0 o (by omega) rfl) hw hst
            -- from the next state on
            cases l with
            | nil =>
              simp only [exTr] at ht
              cases ht
              exact ⟨h', .inl (by simp), hw, x1⟩
            | cons o2 l2 =>
              have ht' := ht
              simp only [exTr] at ht'
              split at ht'
              · rename_i v2 h3 hst2
                split at ht'
                · rename_i tr2 e2 h4 ht2
                  cases ht'
                  obtain ⟨H, q1, _, q3⟩ := tr_ext (m := m - 1) ht w1 (fun k x hk hx => hs (k + 1) x (by omega) (by simpa using hx)) 0 p (by omega) (by omega) _ rfl
                  refine ⟨H, ?_, hw, x1.trans q3⟩
                  rcases q1 with q1 | q1
                  · exact .inl (by simpa using q1)
                  · exact .inr (by simp at q1 ⊢; omega)
                · cases ht'
              · cases ht'
        | succ i =>
          cases p with
          | zero => omega
          | succ p =>
            obtain ⟨x1, w1⟩ := soft_step (hs 0 o (by omega) rfl) hw hst
            obtain ⟨H, q1, q2, q3⟩ := tr_ext (m := m - 1) ht w1 (fun k x hk hx => hs (k + 1) x (by omega) (by simpa using hx)) i p (by omega) (by omega) s (by simpa using hi)
            refine ⟨H, ?_, q2, q3⟩
            rcases q1 with q1 | q1
            · exact .inl (by simpa using q1)
            · exact .inr (by simp at q1 ⊢; omega)
      · cases hr
    · cases hr
/-- readers, and the states at which they are read again: nothing loud ahead of those -/
def rcS (ops : List AOp) (rc : List (Nat × Nat)) : Bool :=
  rc.all fun q => decide (q.1 ≤ q.2) && decide (q.2 ≤ ops.length) && ((ops.take q.2).all AOp.soft) && (match ops[q.1]? with | some x => (match x.o.kind with | .reader => true | _ => false) | none => false)
theorem rcS_ok {C : CallF} {ops : List AOp} {rc : List (Nat × Nat)} {e e' : Env} {h h' : AH} {tr : List (Env × AH × AV)} (hb : rcS ops rc = true) (hr : exTr C ops e h = some (tr, e', h')) (hw : h.wf) : rcOk ops tr h' rc = true := by
  refine List.all_eq_true.2 fun q hq => ?_
  have := List.all_eq_true.1 hb q hq
  simp only [Bool.and_eq_true, decide_eq_true_eq] at this
  obtain ⟨⟨⟨h1, h2⟩, h3⟩, h4⟩ := this
  split at h4
  · rename_i x hx
    have hk : x.o.kind = .reader := by
      cases hkk : x.o.kind <;> simp [hkk] at h4 ⊢
    have hlen := exTr_len hr
    have hil : q.1 < tr.length := by rw [hlen]; exact (List.getElem?_eq_some_iff.1 hx).1
    obtain ⟨s, hs⟩ : ∃ s, tr[q.1]? = some s := ⟨_, List.getElem?_eq_getElem hil⟩
    obtain ⟨H, q1, q2, q3⟩ := tr_ext (m := q.2) hr hw (fun k y hk hy => List.all_eq_true.1 h3 y (List.mem_of_getElem? (by rw [List.getElem?_take, if_pos hk]; exact hy))) q.1 q.2 h1 (Nat.le_refl _) s hs
    have q1 := q1.resolve_right (by omega)
    obtain ⟨se, sh, sv⟩ := s
    simp only [rcOne, hx, hs]
    -- the step of the reader
    have hstep : stepOp C x se sh = some (sv, sh) ∨ (∃ y, stepOp C x se sh = some (sv, y)) := by
      have key : ∀ {l : List AOp} {e e' : Env} {h h' : AH} {tr : List (Env × AH × AV)} {i : Nat} {x : AOp}, exTr C l e h = some (tr, e', h') → l[i]? = some x → ∀ {a b v}, tr[i]? = some (a, b, v) → ∃ y, stepOp C x a b = some (v, y) := fun {l} => by
        induction l with
        | nil => intro e e' h h' tr i x hr hx; simp at hx
        | cons o l ih =>
          intro e e' h h' tr i x hr hx a b v ht
          simp only [exTr] at hr
          split at hr
          · rename_i v1 h1 hst
            split at hr
            · rename_i tr1 e1 h2 ht1
              cases hr
              cases i with
              | zero =>
                simp at hx ht
                obtain ⟨rfl, rfl, rfl⟩ := ht
                subst hx
                exact ⟨_, hst⟩
              | succ i => exact ih ht1 (by simpa using hx) (by simpa using ht)
            · cases hr
          · cases hr
      exact .inr (key hr hx hs)
    obtain ⟨y, hy⟩ : ∃ y, stepOp C x se sh = some (sv, y) := by
      rcases hstep with h | h
      · exact ⟨_, h⟩
      · exact h
    unfold stepOp at hy
    split at hy
    · rename_i hg
      rw [exOp_aop (by rw [hk]; simp)] at hy
      obtain ⟨h3', e3⟩ := reader_ext hk q2 q3 hy
      rw [q1, e3]
      simp
    · rfl
    · cases hy
  · cases h4
section
variable {T : AT} {k : Nat} {Q : XT → SE → SH → Prop} {e e' e1 : SE} {h h' h1 : SH}
theorem W2_regS {ops : List AOp} {rc : List (Nat × Nat)} {kp : List Nat} (hb : rcS ops rc = true) (ho : WO2 T k ops e h fun e' h' => Q .nrm (kp.map fun s => (s, eg e' s)) h') : W2 T k (.regd ops rc kp) e h Q := by
  refine ⟨fun w ce ch h1 h2 => ?_⟩
  obtain ⟨n, ce1, ch1, w1, e1, h1', a1, a2, a3, a4, a5⟩ := ho.run w ce ch h1 h2
  obtain ⟨tr, ht⟩ := exOps_tr a1
  exact ⟨n, .nrm, _, ch1, w1, _, h1', by simp only [exC, ht, rcS_ok hb ht h1.wf, if_true], a2, a3, keep2 a4 kp, a5⟩
theorem W2_runS {ops : List AOp} {rc : List (Nat × Nat)} {kp : List Nat} (hb : rcS ops rc = true) (hr : runK2a ops kp e h = some (e', h')) (hq : Q .nrm e' h') : W2 T k (.regd ops rc kp) e h Q := by
  have : W2 T k (.reg ops kp) e h Q := W2_runa hr hq
  unfold runK2a at hr
  split at hr
  · rename_i e2 h2 he
    cases hr
    exact W2_regS hb (run2a_sound he hq)
  · cases hr
theorem W2_srS {ops : List AOp} {rc : List (Nat × Nat)} {kp : List Nat} {b : AC} (hb : rcS ops rc = true) (hr : runK2a ops kp e h = some (e', h')) (hq : W2 T k b e' h' Q) : W2 T k (.seq (.regd ops rc kp) b) e h Q := W2_seq (W2_runS hb hr hq)
theorem W2_callS {ops : List AOp} {rc : List (Nat × Nat)} {kp : List Nat} {d : Option Nat} {g : Nat} {args : List SV} {rest : List AOp} (hb : rcS ops rc = true) (hr : run2a ops e h = some (e1, h1, some ⟨d, g, args, rest⟩))
    (hk : CK T k (fun e h => Q .nrm (kp.map fun s => (s, eg e s)) h) e1 h1 (some ⟨d, g, args, rest⟩)) : W2 T k (.regd ops rc kp) e h Q := W2_regS hb (run2a_sound hr hk)
theorem W2_scallS {ops : List AOp} {rc : List (Nat × Nat)} {kp : List Nat} {c : AC} {d : Option Nat} {g : Nat} {args : List SV} {rest : List AOp} (hb : rcS ops rc = true) (hr : run2a ops e h = some (e1, h1, some ⟨d, g, args, rest⟩))
    (hk : CK T k (fun e h => W2 T k c (kp.map fun s => (s, eg e s)) h Q) e1 h1 (some ⟨d, g, args, rest⟩)) : W2 T k (.seq (.regd ops rc kp) c) e h Q := W2_seq (W2_callS hb hr hk)
end
end Go.Proofs.Ytadbipeachcekaa.Ab
/- The second machine: regions whose order is open, with several blocks that stay, and lists that stay. -/
namespace Go.Proofs.Ytadbipeachcekaa.Ab
open Go
set_option linter.unusedVariables false
set_option linter.unusedSimpArgs false
/-- the blocks of a list are as they were, and so are the rows that stay -/
def Keep (S : List Nat) (w0 : Wd) (ch0 ch : AH) : Prop := (∀ s ∈ S, ∀ c, w0.ρ s = some c → ch.blk c = ch0.blk c) ∧ ∀ c row, w0.fro c = some row → ch.blk c = ch0.blk c
structure KInv (S : List Nat) (w0 : Wd) (ch0 : AH) (w : Wd) (h : SH) (ch : AH) : Prop where
  keep : Keep S w0 ch0 ch
  liv : ∀ s ∈ S, (∃ c, w0.ρ s = some c ∧ w.ρ s = some c) ∧ ∃ b, h[s]? = some (some b)
  fro : ∀ c row, w0.fro c = some row → w.fro c = some row
theorem KInv.step {S : List Nat} {k : Nat} {w0 w w' : Wd} {ch0 ch ch' : AH} {h h' : SH} (i : KInv S w0 ch0 w h ch) (r : RH w h ch) (f : Fr k w h ch w' h' ch')
    (hs : ∀ s ∈ S, ∀ c, w.ρ s = some c → ch'.blk c = ch.blk c ∧ w'.ρ s = some c ∧ ∃ b, h'[s]? = some (some b)) : KInv S w0 ch0 w' h' ch' where
  keep := ⟨fun s h1 c h2 => by
    obtain ⟨⟨c', h3, h4⟩, _⟩ := i.liv s h1
    rw [h2] at h3; cases h3
    rw [(hs s h1 c h4).1]; exact i.keep.1 s h1 c h2, fun c row h1 => by
    have h2 := i.fro c row h1
    rw [f.same c (r.fro c row h2).1 fun j b h3 h4 => by rw [r.nf j b c h3 h4] at h2; cases h2]
    exact i.keep.2 c row h1⟩
  liv := fun s h1 => by
    obtain ⟨⟨c, h3, h4⟩, _⟩ := i.liv s h1
    obtain ⟨_, h5, h6⟩ := hs s h1 c h4
    exact ⟨⟨c, h3, h5⟩, h6⟩
  fro := fun c row h1 => f.fro c row (i.fro c row h1)
/-- of the first states of a trace: what is told of them; a reader that is marked answers the same in all states of which this is told -/
def TrP (P : AH → Prop) : List Bool → List AOp → List (Env × AH × AV) → Prop
  | b :: fl, o :: ops, x :: tr => (P x.2.1 ∧ (b = true → guarded x.1 o.g = some false ∨ guarded x.1 o.g = some true ∧ ∀ ch2 : AH, P ch2 → ∃ h2, aop o.o x.1 ch2 = some (x.2.2, h2))) ∧ TrP P fl ops tr
  | _, _, _ => True
theorem TrP.get {P : AH → Prop} : ∀ {fl : List Bool} {ops : List AOp} {tr : List (Env × AH × AV)}, TrP P fl ops tr → ∀ {i : Nat} {b : Bool} {o : AOp} {x : Env × AH × AV}, fl[i]? = some b → ops[i]? = some o → tr[i]? = some x →
    P x.2.1 ∧ (b = true → guarded x.1 o.g = some false ∨ guarded x.1 o.g = some true ∧ ∀ ch2 : AH, P ch2 → ∃ h2, aop o.o x.1 ch2 = some (x.2.2, h2))
  | [], _, _, _, i, _, _, _, h, _, _ => by simp at h
  | _ :: _, [], _, _, i, _, _, _, _, h, _ => by simp at h
  | _ :: _, _ :: _, [], _, i, _, _, _, _, _, h => by simp at h
  | b :: fl, o :: ops, x :: tr, hg, 0, _, _, _, h1, h2, h3 => by
    cases h1; cases h2; cases h3; exact hg.1
  | b :: fl, o :: ops, x :: tr, hg, i + 1, _, _, _, h1, h2, h3 => hg.2.get h1 h2 h3
theorem rcP_ok {P : AH → Prop} {fl : List Bool} {ops : List AOp} {tr : List (Env × AH × AV)} {hf : AH} {rc : List (Nat × Nat)} (ht : TrP P fl ops tr) (hfin : ops.length < fl.length → P hf) (hl : tr.length = ops.length) (hb : rcB ops.length fl rc = true) : rcOk ops tr hf rc = true := by
  simp only [rcOk, List.all_eq_true]
  intro q hq
  simp only [rcB, List.all_eq_true, Bool.and_eq_true, beq_iff_eq, decide_eq_true_eq] at hb
  obtain ⟨⟨⟨h1, h2⟩, h3⟩, hi⟩ := hb q hq
  have hit : q.1 < tr.length := by omega
  have a1 := List.getElem?_eq_getElem hi
  have a2 := List.getElem?_eq_getElem hit
  obtain ⟨_, g2⟩ := ht.get h1 a1 a2
  have g3 : P (((tr[q.2]?).map fun x => x.2.1).getD hf) := by
    by_cases hj : q.2 < tr.length
    · have a3 := List.getElem?_eq_getElem hj
      rw [a3]
      exact (ht.get (List.getElem?_eq_getElem h2) (List.getElem?_eq_getElem (show q.2 < ops.length by omega)) a3).1
    · rw [List.getElem?_eq_none (by omega)]
      exact hfin (by omega)
  simp only [rcOne, a1, a2]
  rcases g2 rfl with g | ⟨g, g4⟩
  · rw [g]
  · obtain ⟨h2', g5⟩ := g4 _ g3
    rw [g, g5]; simp
/-! ### several blocks are hidden -/
def hidS : List Nat → SH → SH
  | [], h => h
  | s :: S, h => hidS S (h.set s none)
def unhS : List Nat → SH → SH → SH
  | [], _, h' => h'
  | s :: S, h, h' => (unhS S (h.set s none) h').set s (h.getD s none)
section
variable {k : Nat} {w w' : Wd} {ch ch' : AH}
theorem hidS_len : ∀ (S : List Nat) (h : SH), (hidS S h).length = h.length
  | [], h => rfl
  | s :: S, h => (hidS_len S _).trans (by simp)
theorem unhS_len : ∀ (S : List Nat) (h h' : SH), (unhS S h h').length = h'.length
  | [], h, h' => rfl
  | s :: S, h, h' => by rw [unhS, List.length_set, unhS_len S]
theorem RH.hidS : ∀ {S : List Nat} {h : SH}, RH w h ch → RH w (Ab.hidS S h) ch
  | [], h, r => r
  | s :: S, h, r => RH.hidS (S := S) (r.hid s)
theorem unhS_get : ∀ {S : List Nat} {h h' : SH} {s : Nat}, s ∈ S → s < h'.length → (∀ s ∈ S, ∃ b, h[s]? = some (some b)) → S.Nodup → ∃ b, (unhS S h h')[s]? = some (some b)
  | t :: S, h, h', s, hs, hl, hb, hn => by
    obtain ⟨hnt, hn⟩ := List.nodup_cons.1 hn
    rw [unhS]
    by_cases e : s = t
    · subst e
      obtain ⟨b, hb⟩ := hb s (.head _)
      refine ⟨b, ?_⟩
      rw [List.getElem?_set_self (by rw [unhS_len]; exact hl), List.getD_eq_getElem?_getD, hb]; rfl
    · rw [List.getElem?_set_ne (fun h => e h.symm)]
      have hsS : s ∈ S := (List.mem_cons.1 hs).resolve_left e
      exact unhS_get hsS hl (fun u hu => by
        obtain ⟨b, h1⟩ := hb u (.tail _ hu)
        refine ⟨b, ?_⟩
        rw [List.getElem?_set_ne (fun (e : t = u) => hnt (by rw [e]; exact hu))]; exact h1) hn
theorem RH.unhS : ∀ {S : List Nat} {h h' : SH}, S.Nodup → RH w h ch → (∀ s ∈ S, (∃ c, w.ρ s = some c) ∧ ∃ b, h[s]? = some (some b)) → RH w' h' ch' → Le h.length w w' → h.length ≤ h'.length → Fr k w (Ab.hidS S h) ch w' h' ch' →
    RH w' (Ab.unhS S h h') ch' ∧ Fr k w h ch w' (Ab.unhS S h h') ch' ∧ ∀ s ∈ S, ∀ c, w.ρ s = some c → ch'.blk c = ch.blk c
  | [], h, h', _, r, _, r', _, _, f => ⟨r', f, by simp⟩
  | s :: S, h, h', hn, r, hs, r', hl, hle, f => by
    obtain ⟨hnt, hn⟩ := List.nodup_cons.1 hn
    obtain ⟨⟨c, hc⟩, b, hb⟩ := hs s (.head _)
    have hlen : (h.set s none).length = h.length := by simp
    obtain ⟨a1, a2, a3⟩ := RH.unhS (S := S) (h := h.set s none) hn (r.hid s) (fun u hu => by
      obtain ⟨h1, b', h2⟩ := hs u (.tail _ hu)
      exact ⟨h1, b', by rw [List.getElem?_set_ne (fun (e : s = u) => hnt (by rw [e]; exact hu))]; exact h2⟩) r' (by rw [hlen]; exact hl) (by rw [hlen]; exact hle) f
    obtain ⟨b1, b2, b3⟩ := r.unhid hb hc a1 hl (by rw [unhS_len]; exact hle) a2
    have hgd : h.getD s none = some b := by rw [List.getD_eq_getElem?_getD, hb]; rfl
    refine ⟨by rw [Ab.unhS, hgd]; exact b1, by rw [Ab.unhS, hgd]; exact b2, fun u hu d hd => ?_⟩
    rcases List.mem_cons.1 hu with rfl | hu
    · rw [hc] at hd; cases hd; exact b3
    · exact a3 u hu d hd
end
/-! ### readers of one of several blocks -/
def inS : List Nat → Nat → Bool
  | [], _ => false
  | s :: S, i => if i = s then true else inS S i
theorem inS_mem : ∀ {S : List Nat} {i : Nat}, inS S i = true → i ∈ S
  | [], i, h => by simp [inS] at h
  | s :: S, i, h => by
    simp only [inS] at h
    split at h
    · rename_i e; rw [e]; exact .head _
    · exact .tail _ (inS_mem h)
def rdS (S : List Nat) (P : List Bool) (e : SE) : AO → Bool
  | .ld _ a => match und P (evs e a) with | .ptr id _ => inS S id | .ep _ id _ _ => inS S id | _ => false
  | .toStr x => match und P (evs e x) with | .sl _ id _ _ _ => inS S id | _ => false
  | _ => false
theorem rdS_rdB {S : List Nat} {P : List Bool} {e : SE} {o : AO} (h : rdS S P e o = true) : ∃ s ∈ S, rdB s P e o = true := by
  unfold rdS at h
  split at h
  · split at h
    · rename_i id off e1; exact ⟨id, inS_mem h, by simp [rdB, e1]⟩
    · rename_i a id b c e1; exact ⟨id, inS_mem h, by simp [rdB, e1]⟩
    · cases h
  · split at h
    · rename_i a id b c d e1; exact ⟨id, inS_mem h, by simp [rdB, e1]⟩
    · cases h
  · cases h
def rdrS (S : List Nat) (op : AOp) (e : SE) : Bool := match guardP e op.g with | some P => rdS S P e op.o | none => false

/-- a reader of a row that stays, as it was told ahead of the region -/
def rdF (P : List Bool) (e : SE) : AO → Bool
  | .ld _ a => match und P (evs e a) with | .p (.fp _ _) => true | _ => false
  | _ => false
def heapOp : AO → Bool
  | .ld _ _ | .toStr _ | .lkp _ _ _ _ _ | .len .mp _ => true
  | _ => false
theorem heap_pure {o : AO} (hq : quietOp o = true) (hh : heapOp o = false) : o.kind = .pure := by
  cases o <;> first | rfl | (simp [quietOp] at hq; done) | (simp [heapOp] at hh; done) | skip
  case len k x => cases k <;> first | rfl | (simp [heapOp] at hh; done)
def rdH (S : List Nat) (op : AOp) (e0 e : SE) : Bool := rdrS S op e || (match guardP e0 op.g with | some P => rdF P e0 op.o | none => false)
section
variable {T : AT} {k : Nat} {S : List Nat} {Q : XT → SE → SH → Prop} {K : SE → SH → Prop} {e e' e0 : SE} {h h' h0 : SH} {w w' w0 : Wd} {ch ch' ch0 : AH} {ce : Env}
theorem quiet_step {C : CallF} {d : Option Nat} {g : Option (Nat × Bool)} {o : AO} {cv : AV} (hq : quietOp o = true) (hs : stepOp C ⟨d, g, o⟩ ce ch = some (cv, ch)) :
    (guarded ce g = some false ∧ cv = .tup []) ∨ (guarded ce g = some true ∧ aop o ce ch = some (cv, ch)) := by
  have hnc : exOp C o ce ch = aop o ce ch := by cases o <;> first | rfl | (simp [quietOp] at hq; done)
  simp only [stepOp] at hs
  split at hs
  · rename_i hg; exact .inr ⟨hg, by rw [← hnc]; exact hs⟩
  · rename_i hg; cases hs; exact .inl ⟨hg, rfl⟩
  · cases hs
theorem rdH_ok {C : CallF} {d : Option Nat} {g : Option (Nat × Bool)} {o : AO} {cv : AV} (hq : quietOp o = true) (hs : stepOp C ⟨d, g, o⟩ ce ch = some (cv, ch)) (r : rdH S ⟨d, g, o⟩ e0 e = true) (h1 : RE w h.length e ce) (h2 : RE w0 h0.length e0 ce) (i : KInv S w0 ch0 w h ch) :
    guarded ce g = some false ∨ guarded ce g = some true ∧ ∀ ch2 : AH, Keep S w0 ch0 ch2 → ∃ hh, aop o ce ch2 = some (cv, hh) := by
  rcases quiet_step hq hs with ⟨a, _⟩ | ⟨a, b⟩
  · exact .inl a
  refine .inr ⟨a, fun ch2 hk => ?_⟩
  simp only [rdH, Bool.or_eq_true] at r
  rcases r with r | r
  · simp only [rdrS] at r
    split at r
    · rename_i P hg
      have hall : P.all id = true := by
        have := guardP_ok h1 hg; rw [a] at this; exact (Option.some.inj this).symm
      obtain ⟨s, s1, s2⟩ := rdS_rdB r
      obtain ⟨⟨c, c1, c2⟩, _⟩ := i.liv s s1
      exact rd_at hall h1 c2 s2 ((hk.1 s s1 c c1).trans (i.keep.1 s s1 c c1).symm) b
    · cases r
  · split at r
    · rename_i P hg
      have hall : P.all id = true := by
        have := guardP_ok h2 hg; rw [a] at this; exact (Option.some.inj this).symm
      unfold rdF at r
      split at r
      · rename_i sz x
        have hx := und_rs hall (evs_rs h2 x)
        split at r
        · rename_i e1
          rw [e1] at hx
          simp only [aop] at b ⊢
          generalize ev ce x = z at hx b
          cases hx with | p hx => cases hx with | fp hf _ _ =>
            exact ⟨_, aload_at ((hk.2 _ _ hf).trans (i.keep.2 _ _ hf).symm) b⟩
        · cases r
      · cases r
    · cases r
/-- what is told ahead of the region, with what is found on the way -/
def shd (S : List Nat) (h0 : SH) (e0 e : SE) (op : AOp) : SE :=
  match (!heapOp op.o) || rdH S op e0 e with
  | true => match stpA (.go e0 h0) op with
    | .go e0' _ => e0'
    | _ => epu e0 op.d .un
  | false => epu e0 op.d .un
theorem shd_ok {C : CallF} {d : Option Nat} {g : Option (Nat × Bool)} {o : AO} {cv : AV} (hq : quietOp o = true) (hs : stepOp C ⟨d, g, o⟩ ce ch = some (cv, ch)) (h1 : RE w h.length e ce) (h2 : RE w0 h0.length e0 ce) (r0 : RH w0 h0 ch0) (i : KInv S w0 ch0 w h ch) :
    RE w0 h0.length (shd S h0 e0 e ⟨d, g, o⟩) (eput ce d cv) := by
  have hun : RE w0 h0.length (epu e0 d .un) (eput ce d cv) := h2.put .un d
  unfold shd
  split
  · rename_i hf
    rcases stpA_quiet (e := e0) (h := h0) (d := d) (g := g) hq with hb | ⟨v, hb, hv⟩
    · rw [hb]; exact hun
    · rw [hb]
      obtain ⟨cv0, a1, a2⟩ := hv w0 ce ch0 r0 h2
      have : cv = cv0 := by
        rcases quiet_step hq hs with ⟨b1, b2⟩ | ⟨b1, b2⟩
        · rcases quiet_step hq (a1 C) with ⟨d1, d2⟩ | ⟨d1, d2⟩
          · rw [b2, d2]
          · rw [b1] at d1; cases d1
        · rcases quiet_step hq (a1 C) with ⟨d1, d2⟩ | ⟨d1, d2⟩
          · rw [b1] at d1; cases d1
          · simp only [Bool.or_eq_true, Bool.not_eq_true'] at hf
            rcases hf with hf | hf
            · have := (pure_any (heap_pure hq hf) b2).2 ch0
              rw [d2] at this; cases this; rfl
            · rcases rdH_ok hq hs hf h1 h2 i with h3 | ⟨_, h3⟩
              · rw [b1] at h3; cases h3
              · obtain ⟨hh, h4⟩ := h3 ch0 ⟨fun _ _ _ _ => rfl, fun _ _ _ => rfl⟩
                rw [d2] at h4; cases h4; rfl
      subst this
      exact h2.put a2 d
  · exact hun
structure WOH (T : AT) (k : Nat) (S : List Nat) (fl : List Bool) (l : List AOp) (e0 : SE) (h0 : SH) (e : SE) (h : SH) (K : SE → SH → Prop) : Prop where
  run : ∀ w0 ch0 w ce ch, RH w0 h0 ch0 → RE w0 h0.length e0 ce → RH w h ch → RE w h.length e ce → KInv S w0 ch0 w h ch → ∃ n tr ce' ch' w' e' h', exTr (exN T n) l ce ch = some (tr, ce', ch') ∧ TrP (Keep S w0 ch0) fl l tr ∧ (l.length < fl.length → Keep S w0 ch0 ch') ∧ K e' h' ∧ RH w' h' ch' ∧ RE w' h'.length e' ce' ∧ Fr k w h ch w' h' ch'
theorem WOH_end {l : List AOp} (r : WO2 T k l e h K) : WOH T k S [] l e0 h0 e h K := ⟨fun w0 ch0 w ce ch _ _ h1 h2 _ => by
  obtain ⟨n, ce', ch', w', e', h', a1, a2, a3, a4, a5⟩ := r.run w ce ch h1 h2
  obtain ⟨tr, ht⟩ := exOps_tr a1
  exact ⟨n, tr, ce', ch', w', e', h', ht, by cases l <;> trivial, fun hl => by simp at hl, a2, a3, a4, a5⟩⟩
theorem WOH_last {l : List AOp} (r : WO2 T k l e h K) : WOH T k S [false] l e0 h0 e h K := ⟨fun w0 ch0 w ce ch _ _ h1 h2 hi => by
  obtain ⟨n, ce', ch', w', e', h', a1, a2, a3, a4, a5⟩ := r.run w ce ch h1 h2
  obtain ⟨tr, ht⟩ := exOps_tr a1
  refine ⟨n, tr, ce', ch', w', e', h', ht, ?_, fun hl => ?_, a2, a3, a4, a5⟩
  rotate_left
  · have : l = [] := List.length_eq_zero_iff.1 (by simpa using hl)
    subst this
    cases ht; exact hi.keep
  match l, tr, ht with
  | [], _, _ => trivial
  | o :: l, [], _ => trivial
  | o :: l, x :: tr, ht =>
    refine ⟨⟨?_, fun hb => by cases hb⟩, by cases l <;> trivial⟩
    simp only [exTr] at ht
    split at ht
    · split at ht
      · cases ht; exact hi.keep
      · cases ht
    · cases ht⟩
theorem WOH_step {fl : List Bool} {b : Bool} {o : AOp} {l : List AOp} (hs : ∀ w0 ch0 w ce ch, RH w0 h0 ch0 → RE w0 h0.length e0 ce → RH w h ch → RE w h.length e ce → KInv S w0 ch0 w h ch → ∃ n cv ch' w' e0' e' h', stepOp (exN T n) o ce ch = some (cv, ch') ∧
      (b = true → guarded ce o.g = some false ∨ guarded ce o.g = some true ∧ ∀ ch2 : AH, Keep S w0 ch0 ch2 → ∃ h2, aop o.o ce ch2 = some (cv, h2)) ∧ RE w0 h0.length e0' (eput ce o.d cv) ∧ RH w' h' ch' ∧ RE w' h'.length e' (eput ce o.d cv) ∧ Fr k w h ch w' h' ch' ∧ KInv S w0 ch0 w' h' ch' ∧ WOH T k S fl l e0' h0 e' h' K) :
    WOH T k S (b :: fl) (o :: l) e0 h0 e h K := ⟨fun w0 ch0 w ce ch g1 g2 h1 h2 h3 => by
  obtain ⟨n, cv, ch1, w1, e01, e1, h1', a1, a2, a0, a3, a4, a5, a6, a9⟩ := hs w0 ch0 w ce ch g1 g2 h1 h2 h3
  obtain ⟨m, tr, ce2, ch2, w2, e2, h2', b1, b2, b0, b3, b4, b5, b6⟩ := a9.run w0 ch0 w1 _ ch1 g1 a0 a3 a4 a6
  refine ⟨max n m, (ce, ch, cv) :: tr, ce2, ch2, w2, e2, h2', ?_, ⟨⟨h3.keep, a2⟩, b2⟩, fun hl => b0 (by simpa using hl), b3, b4, b5, a5.trans b6⟩
  simp only [exTr, stepOp_le (exN_le (Nat.le_max_left n m)) a1]
  rw [exTr_le (exN_le (Nat.le_max_right n m)) b1]⟩
def CKH (T : AT) (k : Nat) (S : List Nat) (fl : List Bool) (e0 : SE) (h0 : SH) (K : SE → SH → Prop) (e : SE) (h : SH) (p : Stop2) : Prop :=
  ∀ w0 ch0 w ce ch cargs, RH w h ch → RE w h.length e ce → KInv S w0 ch0 w h ch → P2 (RS w h.length) p.args cargs → ∃ n cv ch' w' e' h', exN T n p.f cargs ch = some (cv, ch') ∧ RH w' h' ch' ∧ RE w' h'.length e' (eput ce p.d cv) ∧ Fr k w h ch w' h' ch' ∧ KInv S w0 ch0 w' h' ch' ∧ WOH T k S fl p.rest (epu e0 p.d .un) h0 e' h' K
inductive St5 where
  | go (e0 e : SE) (h : SH) (fl : List Bool)
  | stop (e0 e : SE) (h : SH) (p : Stop2) (fl : List Bool)
  | bad
def St5.of (e0 : SE) : St2 → List Bool → St5
  | .go e h, fl => .go e0 e h fl
  | .stop e h p, fl => .stop e0 e h p fl
  | .bad, _ => .bad
def stpH (S : List Nat) (h0 : SH) (st : St5) (op : AOp) : St5 :=
  match st with
  | .bad => .bad
  | .stop e0 e h p fl => .stop e0 e h ⟨p.d, p.f, p.args, p.rest ++ [op]⟩ fl
  | .go e0 e h fl =>
    match fl with
    | [] => .of e0 (stpA (.go e h) op) []
    | b :: fl =>
      match fl with
      | [] => (match b with | false => .of e0 (stpA (.go e h) op) [] | true => .bad)
      | b2 :: fl =>
        match quietOp op.o with
        | true => (match !b || rdH S op e0 e with | true => .of (shd S h0 e0 e op) (stpA (.go e h) op) (b2 :: fl) | false => .bad)
        | false =>
          match b with
          | true => .bad
          | false =>
            match guardP e op.g with
            | none => .bad
            | some P =>
              match P.all id with
              | true =>
                match nxt2 op.o (SE.und P e) with
                | .call f args => .stop e0 e h ⟨op.d, f, args, []⟩ (b2 :: fl)
                | .go =>
                  match aop2 op.o (SE.und P e) (hidS S h) with
                  | some (v, h') => .go (epu e0 op.d .un) (epu e op.d v) (unhS S h h') (b2 :: fl)
                  | _ => .bad
                | .bad => .bad
              | false => .go (epu e0 op.d .un) (epu e op.d (.tup [])) h (b2 :: fl)
def runH (S : List Nat) (h0 : SH) (l : List AOp) (e0 e : SE) (h : SH) (fl : List Bool) : St5 := l.foldl (stpH S h0) (.go e0 e h fl)
theorem foldH_stop (e0 e : SE) (h : SH) (fl : List Bool) : ∀ (l : List AOp) (p : Stop2), l.foldl (stpH S h0) (.stop e0 e h p fl) = .stop e0 e h ⟨p.d, p.f, p.args, p.rest ++ l⟩ fl
  | [], p => by simp
  | o :: l, p => by simp only [List.foldl_cons, stpH]; rw [foldH_stop e0 e h fl l]; simp
theorem foldH_bad : ∀ (l : List AOp), l.foldl (stpH S h0) .bad = .bad
  | [] => rfl
  | o :: l => by simp only [List.foldl_cons, stpH]; exact foldH_bad l
/-- what is wanted where such a run ends -/
def EndH (T : AT) (k : Nat) (S : List Nat) (h0 : SH) (K : SE → SH → Prop) : St5 → Prop
  | .go _ e h _ => K e h
  | .stop _ e h p [] => CK T k K e h (some p)
  | .stop e0 e h p (b :: fl) => CKH T k S (b :: fl) e0 h0 K e h p
  | .bad => False
theorem foldH_nil (e0 : SE) : ∀ (l : List AOp) (st : St2), l.foldl (stpH S h0) (.of e0 st []) = .of e0 (l.foldl stpA st) []
  | [], st => rfl
  | o :: l, st => by
    rw [List.foldl_cons, List.foldl_cons, ← foldH_nil e0 l]
    cases st <;> rfl
theorem runAH_end {l : List AOp} {st : St2} (hr : l.foldl stpA (.go e h) = st) (hk : EndH T k S h0 K (.of e0 st [])) : WO2 T k l e h K := by
  cases st with
  | go e' h' => exact run2a_sound (e' := e') (h' := h') (s := none) (by simp only [run2a, hr, endS]) hk
  | stop e' h' p => exact run2a_sound (e' := e') (h' := h') (s := some p) (by simp only [run2a, hr, endS]) hk
  | bad => exact hk.elim
theorem runH_sound (hn : S.Nodup) : ∀ {l : List AOp} {e0 e : SE} {h : SH} {fl : List Bool}, EndH T k S h0 K (runH S h0 l e0 e h fl) → WOH T k S fl l e0 h0 e h K
  | l, e0, e, h, [], hk => by
    refine WOH_end (runAH_end (S := S) (h0 := h0) (e0 := e0) rfl ?_)
    rw [runH, show St5.go e0 e h [] = .of e0 (.go e h) [] from rfl, foldH_nil] at hk
    exact hk
  | [], e0, e, h, b :: fl, hk => ⟨fun w0 ch0 w ce ch _ _ h1 h2 hi => ⟨0, [], ce, ch, w, e, h, rfl, trivial, fun _ => hi.keep, hk, h1, h2, .refl _ _ _ _⟩⟩
  | o :: l, e0, e, h, [b], hk => by
    cases b with
    | true => simp only [runH, List.foldl_cons, stpH, foldH_bad] at hk; exact hk.elim
    | false =>
      refine WOH_last (runAH_end (S := S) (h0 := h0) (e0 := e0) rfl ?_)
      simp only [runH, List.foldl_cons, stpH] at hk
      rw [foldH_nil] at hk
      rw [List.foldl_cons]; exact hk
  | ⟨d, g, o⟩ :: l, e0, e, h, b :: b2 :: fl, hk => by
    simp only [runH, List.foldl_cons, stpH] at hk
    split at hk
    · rename_i hq
      split at hk
      · rename_i hrd
        rcases stpA_quiet (e := e) (h := h) (d := d) (g := g) hq with hb | ⟨v, hb, hv⟩
        · rw [hb] at hk
          simp only [St5.of, foldH_bad] at hk; exact hk.elim
        · rw [hb] at hk
          refine WOH_step fun w0 ch0 w ce ch g1 g2 h1 h2 hi => ?_
          obtain ⟨cv, a1, a2⟩ := hv w ce ch h1 h2
          refine ⟨0, cv, ch, w, _, _, h, a1 _, fun hbt => ?_, shd_ok hq (a1 fun _ _ _ => none) h2 g2 g1 hi, h1, h2.put a2 d, .refl _ _ _ _, hi, runH_sound hn hk⟩
          subst hbt
          exact rdH_ok hq (a1 fun _ _ _ => none) (by simpa using hrd) h2 g2 hi
      · rw [foldH_bad] at hk; exact hk.elim
    · rename_i hq
      split at hk
      · rw [foldH_bad] at hk; exact hk.elim
      · split at hk
        · rw [foldH_bad] at hk; exact hk.elim
        · rename_i P hg
          split at hk
          · rename_i hall
            split at hk
            · rename_i hc
              rw [foldH_stop] at hk
              refine WOH_step fun w0 ch0 w ce ch g1 g2 h1 h2 hi => ?_
              obtain ⟨cargs, q1, q2⟩ := nxt2_call (und_re hall h2) hc
              obtain ⟨n, cv, ch', w', e', h', a1, a2, a3, a4, a5, a8⟩ := hk w0 ch0 w ce ch cargs h1 h2 hi q2
              refine ⟨n, cv, ch', w', _, e', h', ?_, (by intro h; cases h), g2.put .un d, a2, a3, a4, a5, by simpa using a8⟩
              simp only [stepOp, guardP_ok h2 hg, hall, q1]
              exact a1
            · rename_i hc
              split at hk
              · rename_i v h1' ha
                refine WOH_step fun w0 ch0 w ce ch g1 g2 h1 h2 hi => ?_
                obtain ⟨cv, ch', w', a1, a2, a3, a4, a5, a6⟩ := aop2_sound (k := k) (h1.hidS (S := S)) (by rw [hidS_len]; exact und_re hall h2) ha
                rw [hidS_len] at a4 a5
                have hs : ∀ s ∈ S, (∃ c, w.ρ s = some c) ∧ ∃ b, h[s]? = some (some b) := fun s hs => by
                  obtain ⟨⟨c, _, c2⟩, c3⟩ := hi.liv s hs; exact ⟨⟨c, c2⟩, c3⟩
                obtain ⟨b1, b2, b3⟩ := RH.unhS hn h1 hs a2 a4 a5 a6
                refine ⟨0, cv, ch', w', _, _, _, ?_, (by intro h; cases h), g2.put .un d, b1, ?_, b2, ?_, runH_sound hn hk⟩
                · simp only [stepOp, guardP_ok h2 hg, hall, nxt2_go hc]
                  exact a1
                · rw [unhS_len]; exact (h2.mono a4 a5).put a3 d
                · refine hi.step h1 b2 fun s hs' c hc' => ?_
                  obtain ⟨_, b, hb⟩ := hs s hs'
                  have hlt := live_lt hb
                  exact ⟨b3 s hs' c hc', (a4.ρ s hlt).trans hc', unhS_get hs' (by omega) (fun u hu => (hs u hu).2) hn⟩
              · rw [foldH_bad] at hk; exact hk.elim
            · rw [foldH_bad] at hk; exact hk.elim
          · rename_i hall
            refine WOH_step fun w0 ch0 w ce ch g1 g2 h1 h2 hi => ?_
            refine ⟨0, .tup [], ch, w, _, _, h, ?_, (by intro h; cases h), g2.put .un d, h1, h2.put (.tup rfl (by intro j; simp)) d, .refl _ _ _ _, hi, runH_sound hn hk⟩
            simp only [stepOp, guardP_ok h2 hg, hall]
/-- blocks that are there -/
def okS (h : SH) (s : Nat) : Bool :=
  match bAt h s with
  | some (.obj _) => true
  | some (.map _) => true
  | some (.arr _ (_ :: _)) => true
  | _ => false
theorem W2_regH {ops : List AOp} {rc : List (Nat × Nat)} {kp : List Nat} (S : List Nat) (fl : List Bool) (hn : S.Nodup) (hb : rcB ops.length fl rc = true) (hs : S.all (okS h) = true) {st : St5} (hr : runH S h ops e e h fl = st)
    (hk : EndH T k S h (fun e' h' => Q .nrm (kp.map fun s => (s, eg e' s)) h') st) : W2 T k (.regd ops rc kp) e h Q := by
  subst hr
  refine ⟨fun w ce ch h1 h2 => ?_⟩
  have hi : KInv S w ch w h ch := by
    refine ⟨⟨fun _ _ _ _ => rfl, fun _ _ _ => rfl⟩, fun s hs' => ?_, fun _ _ h => h⟩
    have h3 := List.all_eq_true.1 hs s hs'
    have key : ∀ b, bAt h s = some b → (∀ esz, b ≠ .arr esz []) → (∃ c, w.ρ s = some c ∧ w.ρ s = some c) ∧ ∃ b, h[s]? = some (some b) := fun b h4 h5 => by
      have hsb := bAt_eq h4
      cases hc : w.ρ s with
      | none =>
        obtain ⟨esz, rfl⟩ := h1.vir s b hsb hc
        exact (h5 esz rfl).elim
      | some c => exact ⟨⟨c, rfl, rfl⟩, b, hsb⟩
    unfold okS at h3
    split at h3
    · rename_i h4; exact key _ h4 (fun _ h => by cases h)
    · rename_i h4; exact key _ h4 (fun _ h => by cases h)
    · rename_i h4; exact key _ h4 (fun _ h => by cases h)
    · cases h3
  obtain ⟨n, tr, ce1, ch1, w1, e1, h1', a1, a2, a0, a3, a4, a5, a6⟩ := (runH_sound hn hk).run w ch w ce ch h1 h2 h1 h2 hi
  exact ⟨n, .nrm, _, ch1, w1, _, h1', by simp only [exC, a1, rcP_ok a2 a0 (exTr_len a1) hb, if_true], a3, a4, keep2 a5 kp, a6⟩
theorem W2_sregH {ops : List AOp} {rc : List (Nat × Nat)} {kp : List Nat} {c : AC} (S : List Nat) (fl : List Bool) (hn : S.Nodup) (hb : rcB ops.length fl rc = true) (hs : S.all (okS h) = true) {st : St5} (hr : runH S h ops e e h fl = st)
    (hk : EndH T k S h (fun e' h' => W2 T k c (kp.map fun s => (s, eg e' s)) h' Q) st) : W2 T k (.seq (.regd ops rc kp) c) e h Q := W2_seq (W2_regH S fl hn hb hs hr hk)
theorem WOH_go {l : List AOp} {fl : List Bool} {st : St5} (hn : S.Nodup) (hr : runH S h0 l e0 e h fl = st) (hk : EndH T k S h0 K st) : WOH T k S fl l e0 h0 e h K := by subst hr; exact runH_sound hn hk
theorem EH_ck {p : Stop2} (hk : CK T k K e h (some p)) : EndH T k S h0 K (.stop e0 e h p []) := hk
theorem EH_go {fl : List Bool} (hk : K e h) : EndH T k S h0 K (.go e0 e h fl) := hk
/-- a call that doesn't reach the blocks that are looked at -/
theorem EH_call {k' : Nat} {d : Option Nat} {g : Nat} {args : List SV} {rest : List AOp} {args0 : List SV} {hv : SH} {R : SV → SH → Prop} {b : Bool} {fl : List Bool} (σ : List Nat) (spec : Ret2 T k' g args0 hv R) (hn : σ.Nodup) (hσ : ∀ x ∈ σ, x < h.length) (hp : pinsOk k k' σ = true) (hi : S.all (fun s => (idx σ s).isNone) = true)
    (ha : SV.cvs (idx σ) args = args0) (hh : view σ h = hv) (hk : ∀ v h', R v h' → WOH T k S (b :: fl) rest (epu e0 d .un) h0 (epu (e.cv (kills (σ.drop k'))) d (v.cv (gback σ h.length))) (back σ k' h h') K) :
    EndH T k S h0 K (.stop e0 e h ⟨d, g, args, rest⟩ (b :: fl)) := by
  subst ha
  subst hh
  intro w0 ch0 w ce ch cargs r he iv hargs
  obtain ⟨n, cv, ch1, w1, v, h1, b1, b2, b3, b4, b5⟩ := spec.run (w.vw σ h.length) cargs ch (r.view hn) (hargs.cv view_cv)
  obtain ⟨c1, c2, c3, c4⟩ := r.back hn b3 b5 hp hσ
  refine ⟨n, cv, ch1, _, _, _, b1, c1, (he.cv c3).put (b4.cv c2) d, c4, iv.step r c4 fun s hs c hc => ?_, hk v h1 b2⟩
  have his : idx σ s = none := by simpa using List.all_eq_true.1 hi s hs
  obtain ⟨_, b0, hb0⟩ := iv.liv s hs
  refine ⟨?_, ?_, back_out his hb0⟩
  · refine b5.same c (r.lv hb0 hc) fun j b hj hρ => ?_
    obtain ⟨i, b1, a1, a2, rfl⟩ := view_get hj
    rw [vw_ρ a1 (live_lt a2)] at hρ
    have := r.inj i s _ _ c a2 hb0 hρ hc
    subst this
    rw [idx_of hn a1] at his; cases his
  · simp only [Wd.bk, his]; rw [if_pos (live_lt hb0)]; exact hc
theorem EH_pure {k' : Nat} {d : Option Nat} {g : Nat} {args : List SV} {rest : List AOp} {args0 : List SV} {R : SV → SH → Prop} {b : Bool} {fl : List Bool} (spec : Ret2 T k' g args0 [] R) (ha : SV.cvs (idx []) args = args0)
    (hk : ∀ v h', R v h' → WOH T k S (b :: fl) rest (epu e0 d .un) h0 (epu e d (v.cv (gback [] h.length))) (h ++ SH.cv (gback [] h.length) h') K) : EndH T k S h0 K (.stop e0 e h ⟨d, g, args, rest⟩ (b :: fl)) := by
  refine EH_call [] spec List.nodup_nil (by simp) (by simp [pinsOk]) (List.all_eq_true.2 fun _ _ => rfl) ha rfl fun v h' hr => ?_
  have := hk v h' hr
  rw [back_nil]
  rw [show e.cv (kills (List.drop k' [])) = e from by rw [List.drop_nil]; exact cve_all kills_nil e]
  exact this
end
/-- nil in a cell is an empty list that stays -/
theorem Wk.nilcf {k : Nat} {e : SE} {h : SH} (id off esz : Nat) {cs : List SV} (hb : bAt h id = some (.obj cs)) (hs : cs[off]? = some .nils) : Wk k e h e (h.set id (some (.obj (cs.set off (.fz esz []))))) :=
  Wk.setB id hb (fun w c cb h => by
    cases h with
    | @obj _ ccs h1 h2 =>
      refine .obj h1 ⟨by simpa using h2.1, fun j x y hx hy => ?_⟩
      rw [List.getElem?_set] at hx
      split at hx
      · rename_i he
        subst he
        split at hx
        · cases hx
          have := h2.2 off _ y hs hy
          cases this with | p h0 => cases h0 with | nils => exact .p (.fz0 _)
        · cases hx
      · exact h2.2 j x y hx hy) (fun esz' h => by cases h)
attribute [go_sem] List.getD_cons_zero List.getD_cons_succ inS runH stpH St5.of rdH rdrS rdS rdF shd hidS unhS heapOp okS Bool.true_or Bool.or_true Bool.not_true Bool.not_false Bool.false_or
end Go.Proofs.Ytadbipeachcekaa.Ab
/- The second machine: maps of any keys, as lists of things; counting up in a map whose keys are lists. -/
namespace Go.Proofs.Ytadbipeachcekaa.Ab
open Go
set_option linter.unusedVariables false
section
variable {α κ : Type} [DecidableEq κ]
/-- the first thing of a key, and its place -/
def findK (key : α → κ) (k : κ) : List α → Nat → Option (Nat × α)
  | [], _ => none
  | x :: r, j => if key x = k then some (j, x) else findK key k r (j + 1)
/-- an entry: a text, and one cell -/
def mS (key : α → List UInt8) (g : α → PV) (x : α) : SV × SV := (.p (.s (key x)), .p (g x))
/-- an entry: two numbers, and one cell -/
def mD (key : α → Int × Int) (g : α → PV) (x : α) : SV × SV := (.agg [.p (.i .i64 (key x).1), .p (.i .i64 (key x).2)], .p (g x))
theorem keyq2_s (k x : List UInt8) : keyq2 (.sc .st) (.p (.s k)) (.p (.s x)) = some (decide (k = x)) := by
  simp [keyq2, key2, sc, keyq, sceq]
theorem keyq2_d (a b x y : Int) : keyq2 (.ar [.it, .it]) (.agg [.p (.i .i64 a), .p (.i .i64 b)]) (.agg [.p (.i .i64 x), .p (.i .i64 y)]) = some (decide ((a, b) = (x, y))) := by
  simp only [keyq2, key2, scs, sc, keyq, aeqs, sceq, Option.map_some]
  by_cases h1 : a = x
  · by_cases h2 : b = y <;> simp [h1, h2]
  · simp [h1]
theorem kfind2_S (key : α → List UInt8) (g : α → PV) (k : List UInt8) : ∀ (l : List α) (j : Nat), kfind2 (.sc .st) (.p (.s k)) (l.map (mS key g)) j = some ((findK key k l j).map fun p => (p.1, .p (g p.2)))
  | [], j => rfl
  | x :: l, j => by
    simp only [List.map_cons, mS, kfind2, keyq2_s]
    by_cases h : key x = k
    · rw [decide_eq_true h.symm]
      simp [findK, h]
    · rw [decide_eq_false (fun e => h e.symm)]
      simp only [findK, h, if_false]
      exact kfind2_S key g k l (j + 1)
theorem kfind2_D (key : α → Int × Int) (g : α → PV) (a b : Int) : ∀ (l : List α) (j : Nat), kfind2 (.ar [.it, .it]) (.agg [.p (.i .i64 a), .p (.i .i64 b)]) (l.map (mD key g)) j = some ((findK key (a, b) l j).map fun p => (p.1, .p (g p.2)))
  | [], j => rfl
  | x :: l, j => by
    simp only [List.map_cons, mD, kfind2, keyq2_d]
    by_cases h : key x = (a, b)
    · rw [decide_eq_true (by rw [h])]
      simp [findK, h]
    · rw [decide_eq_false (fun e => h e.symm)]
      simp only [findK, h, if_false]
      exact kfind2_D key g a b l (j + 1)
theorem mfind_S (key : α → List UInt8) (g : α → PV) (k : List UInt8) (l : List α) : mfind (.sc .st) (.p (.s k)) (l.map (mS key g)) = some ((findK key k l 0).map fun p => (p.1, .p (g p.2))) := by
  rw [mfind, if_pos (by simp [kok2, key2, sc, kok, conf1]), kfind2_S]
theorem mfind_D (key : α → Int × Int) (g : α → PV) (a b : Int) (l : List α) : mfind (.ar [.it, .it]) (.agg [.p (.i .i64 a), .p (.i .i64 b)]) (l.map (mD key g)) = some ((findK key (a, b) l 0).map fun p => (p.1, .p (g p.2))) := by
  rw [mfind, if_pos (by simp [kok2, key2, scs, sc, kok, confs, conf1]), kfind2_D]
theorem cv_mS (f : Nat → Option Nat) (key : α → List UInt8) (g : α → PV) (l : List α) : B2.cv f (.map (l.map (mS key g))) = .map (l.map (mS key g)) := by
  simp only [B2.cv, List.map_map]; congr 1
theorem cv_mD (f : Nat → Option Nat) (key : α → Int × Int) (g : α → PV) (l : List α) : B2.cv f (.map (l.map (mD key g))) = .map (l.map (mD key g)) := by
  simp only [B2.cv, List.map_map]; congr 1
theorem frz_mS (h : SH) (i : Nat) (key : α → List UInt8) (g : α → PV) (l : List α) : B2.frz h i (.map (l.map (mS key g))) = .map (l.map (mS key g)) := by
  simp only [B2.frz, List.map_map]; congr 1
theorem frz_mD (h : SH) (i : Nat) (key : α → Int × Int) (g : α → PV) (l : List α) : B2.frz h i (.map (l.map (mD key g))) = .map (l.map (mD key g)) := by
  simp only [B2.frz, List.map_map]; congr 1
theorem cvm_mS (f : Nat → Option Nat) (key : α → List UInt8) (g : α → PV) (l : List α) : (l.map (mS key g)).map (fun x => (x.1.cv f, x.2.cv f)) = l.map (mS key g) := by
  simp only [List.map_map]; congr 1
theorem cvm_mD (f : Nat → Option Nat) (key : α → Int × Int) (g : α → PV) (l : List α) : (l.map (mD key g)).map (fun x => (x.1.cv f, x.2.cv f)) = l.map (mD key g) := by
  simp only [List.map_map]; congr 1
theorem frzm_mS (h : SH) (i : Nat) (key : α → List UInt8) (g : α → PV) (l : List α) : (l.map (mS key g)).map (fun x => (x.1.frz h i, x.2.frz h i)) = l.map (mS key g) := by
  simp only [List.map_map]; congr 1
theorem frzm_mD (h : SH) (i : Nat) (key : α → Int × Int) (g : α → PV) (l : List α) : (l.map (mD key g)).map (fun x => (x.1.frz h i, x.2.frz h i)) = l.map (mD key g) := by
  simp only [List.map_map]; congr 1
theorem findK_none {key : α → κ} {k : κ} : ∀ {l : List α} {j : Nat}, findK key k l j = none ↔ ∀ x ∈ l, key x ≠ k
  | [], j => by simp [findK]
  | x :: l, j => by
    simp only [findK]
    split
    · rename_i h; simp [h]
    · rename_i h; rw [findK_none]; simp [h]
theorem findK_mem {key : α → κ} {k : κ} : ∀ {l : List α} {j i : Nat} {x : α}, findK key k l j = some (i, x) → x ∈ l ∧ key x = k
  | [], j, i, x, h => by simp [findK] at h
  | y :: l, j, i, x, h => by
    simp only [findK] at h
    split at h
    · rename_i hk
      simp only [Option.some.injEq, Prod.mk.injEq] at h
      obtain ⟨rfl, rfl⟩ := h
      exact ⟨.head _, hk⟩
    · obtain ⟨h1, h2⟩ := findK_mem h
      exact ⟨.tail _ h1, h2⟩
end
attribute [go_sem] mfind_S mfind_D cv_mS cv_mD frz_mS frz_mD cvm_mS cvm_mD frzm_mS frzm_mD
end Go.Proofs.Ytadbipeachcekaa.Ab
/- The second machine: counting up in a map through its entry. -/
namespace Go.Proofs.Ytadbipeachcekaa.Ab
open Go
set_option linter.unusedVariables false
theorem cvs_app (f : Nat → Option Nat) (l r : List SV) : SV.cvs f (l ++ r) = SV.cvs f l ++ SV.cvs f r := by rw [cvs_map, cvs_map, cvs_map, List.map_append]
theorem frzs_app (h : SH) (i : Nat) (l r : List SV) : SV.frzs h i (l ++ r) = SV.frzs h i l ++ SV.frzs h i r := by rw [frzs_map, frzs_map, frzs_map, List.map_append]
attribute [go_sem] cvs_app frzs_app
theorem bfind_get : ∀ {es : List (AV × AV × Nat)} {i j : Nat} {k v : AV} {n : Nat}, (es.map fun x => x.2.2).Nodup → es[i]? = some (k, v, n) → bfind (n : Int) es j = some (j + i, k, n)
  | [], i, j, k, v, n, _, h => by simp at h
  | (k0, v0, n0) :: r, 0, j, k, v, n, _, h => by
    simp at h; obtain ⟨rfl, rfl, rfl⟩ := h
    simp [bfind]
  | (k0, v0, n0) :: r, i + 1, j, k, v, n, hn, h => by
    rw [List.map_cons, List.nodup_cons] at hn
    have h' : r[i]? = some (k, v, n) := by simpa using h
    have : n0 ≠ n := fun e => hn.1 (List.mem_map.2 ⟨_, List.mem_of_getElem? h', e.symm⟩)
    have : ¬((n0 : Int) = (n : Int)) := by omega
    simp only [bfind, this, if_false]
    rw [bfind_get hn.2 h']
    congr 2; omega
theorem exOps_cons {C : CallF} {o : AOp} {r : List AOp} {e : Env} {h : AH} {p : Env × AH} (hr : exOps C (o :: r) e h = some p) : ∃ v h', stepOp C o e h = some (v, h') ∧ exOps C r (eput e o.d v) h' = some p := by
  simp only [exOps] at hr
  split at hr
  · rename_i hs; exact ⟨_, _, hs, hr⟩
  · cases hr
theorem exTr_cons {C : CallF} {o : AOp} {r : List AOp} {e e' : Env} {h h' h2 : AH} {v : AV} {tr : List (Env × AH × AV)} (hs : stepOp C o e h = some (v, h')) (hr : exTr C r (eput e o.d v) h' = some (tr, e', h2)) : exTr C (o :: r) e h = some ((e, h, v) :: tr, e', h2) := by
  simp only [exTr, hs, hr]
theorem ld_mem {sz : Option Nat} {a v : AV} {h h' : AH} (hr : aload sz a h = some (v, h')) : h' = h := by
  unfold aload at hr
  split at hr
  · obtain ⟨x, _, e⟩ := Option.map_eq_some_iff.1 hr; cases e; rfl
  · obtain ⟨x, _, e⟩ := Option.map_eq_some_iff.1 hr; cases e; rfl
  · cases hr
theorem pure_mem {v : AV} {h h' : AH} {r : Option AV} (hr : pureh h r = some (v, h')) : h' = h := by
  obtain ⟨x, _, e⟩ := Option.map_eq_some_iff.1 hr; cases e; rfl
/-- the key is found, or not, in what is there -/
theorem lkp_in {kk : KK} {z v k : AV} {c : Nat} {h h' : AH} (hr : alookup kk z false (.mp c) k h = some (v, h')) : h' = h ∧ ∃ es cl, h.blk c = some (.map es cl) ∧
    ((if kok kk k then kfind kk k es 0 else none) = some none ∧ v = z ∨ ∃ j n, (if kok kk k then kfind kk k es 0 else none) = some (some (j, v, n))) := by
  simp only [alookup, amapof] at hr
  split at hr
  · cases hr
  · rename_i id es cl hb
    split at hb
    · rename_i hbl
      cases hb
      split at hr
      · cases hr
      · rename_i hf; cases hr; exact ⟨rfl, _, _, hbl, .inl ⟨hf, rfl⟩⟩
      · rename_i hf; cases hr; exact ⟨rfl, _, _, hbl, .inr ⟨_, _, hf⟩⟩
    · cases hb
theorem kfind_set {kk : KK} {k : AV} : ∀ {es : List (AV × AV × Nat)} {j i : Nat} {v w : AV} {n : Nat}, keyq kk k k = some true → kfind kk k es j = some (some (i, v, n)) → kfind kk k (es.set (i - j) (k, w, n)) j = some (some (i, w, n))
  | [], j, i, v, w, n, _, h => by simp [kfind] at h
  | (x, v0, n0) :: r, j, i, v, w, n, hk, h => by
    simp only [kfind] at h
    split at h
    · cases h; simp [kfind, hk]
    · rename_i hq
      obtain ⟨y, h1, h2⟩ := kfind_get h
      rw [show i - j = (i - (j + 1)) + 1 by omega, List.set_cons_succ]
      simp only [kfind, hq]
      exact kfind_set hk h
    · cases h
theorem kfind_snoc {kk : KK} {k : AV} {w : AV} {n : Nat} : ∀ {es : List (AV × AV × Nat)} {j : Nat}, keyq kk k k = some true → kfind kk k es j = some none → kfind kk k (es ++ [(k, w, n)]) j = some (some (j + es.length, w, n))
  | [], j, hk, h => by simp [kfind, hk]
  | (x, v0, n0) :: r, j, hk, h => by
    simp only [kfind] at h
    split at h
    · cases h
    · rename_i hq
      rw [List.cons_append]
      simp only [kfind, hq]
      rw [kfind_snoc hk h, List.length_cons]
      congr 3; omega
    · cases h
theorem sceq_self {k : SK} {a : AV} (h : conf1 k a = true) : sceq k a a = some true := by
  cases k <;> cases a <;> simp [conf1, sceq] at h ⊢
theorem aeqs_self : ∀ {ks : List SK} {l : List AV}, confs ks l = true → aeqs ks l l = some true
  | [], [], _ => rfl
  | [], _ :: _, h => by simp [confs] at h
  | _ :: _, [], h => by simp [confs] at h
  | k :: ks, x :: xs, h => by
    simp only [confs, Bool.and_eq_true] at h
    simp only [aeqs, sceq_self h.1, aeqs_self h.2]
theorem keyq_self {kk : KK} {a : AV} (h : kok kk a = true) : keyq kk a a = some true := by
  cases kk with
  | sc k => exact sceq_self h
  | ar ks =>
    cases a <;> simp [kok] at h
    exact aeqs_self h
/-- a map's entry, and then what it is now: what is put -/
theorem ent_put {kk : KK} {z k v u : AV} {c : Nat} {es : List (AV × AV × Nat)} {cl : Nat} {h h2 : AH} (hb : h.blk c = some (.map es cl)) (hbo : Bo es cl) (hr : amapput kk (.mp c) k v h = some (u, h2)) :
    u = .tup [] ∧ ∃ (x : AV) (n : Nat) (h1 : AH), amapent kk z (.mp c) k h = some (.tup [x, .i .i64 n], h1) ∧ amapst (.mp c) (.i .i64 n) v h1 = some (.tup [], h2) ∧ (∀ r, alookup kk z false (.mp c) k h = some (r, h) → alookup kk z false (.mp c) k h1 = some (r, h1)) := by
  have hset : ∀ (a b : Option Blk), (h.set c a).set c b = h.set c b := fun a b => by
    simp only [AH.set]; congr 1; funext j; split <;> rfl
  have hblk : ∀ (a : Option Blk), (h.set c a).blk c = a := fun a => by simp [AH.set]
  simp only [amapput, amapof, hb] at hr
  simp only [amapent, amapof, hb]
  split at hr
  · cases hr
  · rename_i hf
    cases hr
    have hf' : kok kk k = true ∧ kfind kk k es 0 = some none := by
      split at hf
      · exact ⟨by assumption, hf⟩
      · cases hf
    have hk := keyq_self hf'.1
    refine ⟨rfl, z, cl, _, rfl, ?_, ?_⟩
    · simp only [amapst, amapof, hblk]
      have hg : (es ++ [(k, z, cl)])[es.length]? = some (k, z, cl) := by rw [List.getElem?_append_right (Nat.le_refl _), Nat.sub_self]; rfl
      rw [bfind_get (hbo.snoc k z).1 hg]
      simp only [Nat.zero_add, hset, List.set_append_right _ _ (Nat.le_refl _), Nat.sub_self, List.set_cons_zero]
    · intro r hl
      simp only [alookup, amapof, hb, hf] at hl
      cases hl
      simp only [alookup, amapof, hblk, hf'.1, if_true, kfind_snoc hk hf'.2]
      rfl
  · rename_i j v0 n hf
    cases hr
    have hf' : kok kk k = true ∧ kfind kk k es 0 = some (some (j, v0, n)) := by
      split at hf
      · exact ⟨by assumption, hf⟩
      · cases hf
    have hk := keyq_self hf'.1
    obtain ⟨y, _, hy⟩ := kfind_get hf'.2
    rw [Nat.sub_zero] at hy
    refine ⟨rfl, v0, n, _, rfl, ?_, ?_⟩
    · simp only [amapst, amapof, hblk]
      have hlt := (List.getElem?_eq_some_iff.1 hy).1
      have hg : (es.set j (k, v0, n))[j]? = some (k, v0, n) := List.getElem?_set_self hlt
      rw [bfind_get (hbo.set hy).1 hg]
      simp only [Nat.zero_add, hset, List.set_set]
    · intro r hl
      simp only [alookup, amapof, hb, hf] at hl
      cases hl
      have := kfind_set (w := v0) hk hf'.2
      rw [Nat.sub_zero] at this
      simp only [alookup, amapof, hblk, hf'.1, if_true, this]
      try rfl
section
variable (m x a1 a2 a3 a4 a5 a6 : Nat) (sz : Option Nat) (kk : KK)
def incA : List AOp := [⟨some a1, none, .mv (.t m)⟩, ⟨some a2, none, .ld sz (.t x)⟩, ⟨some a3, none, .lkp kk (.i .i64 0) false (.t a1) (.t a2)⟩, ⟨some a4, none, .bin .add (.t a3) (.c (.i .i64 1))⟩, ⟨none, none, .mup kk (.t a1) (.t a2) (.t a4)⟩]
def incB : List AOp := [⟨some a1, none, .mv (.t m)⟩, ⟨some a2, none, .ld sz (.t x)⟩, ⟨some a3, none, .lkp kk (.i .i64 0) false (.t a1) (.t a2)⟩, ⟨some a4, none, .bin .add (.t a3) (.c (.i .i64 1))⟩, ⟨some a5, none, .ment kk (.i .i64 0) (.t a1) (.t a2)⟩, ⟨some a6, none, .ext 1 (.t a5)⟩, ⟨none, none, .mst (.t a1) (.t a6) (.t a4)⟩]
end
theorem inc_ex {C : CallF} {m x a1 a2 a3 a4 a5 a6 : Nat} {sz : Option Nat} {kk : KK} {ce ce' : Env} {ch ch' : AH} {c : Nat} {es : List (AV × AV × Nat)} {cl : Nat} (hn : [a1, a2, a3, a4, a5, a6].Nodup)
    (hm : eget ce m = .mp c) (hb : ch.blk c = some (.map es cl)) (hbo : Bo es cl) (hr : exOps C (incA m x a1 a2 a3 a4 sz kk) ce ch = some (ce', ch')) :
    ∃ v5 v6 tr, exTr C (incB m x a1 a2 a3 a4 a5 a6 sz kk) ce ch = some (tr, (a6, v6) :: (a5, v5) :: ce', ch') ∧ rcOk (incB m x a1 a2 a3 a4 a5 a6 sz kk) tr ch' [(2, 6)] = true := by
  simp only [List.nodup_cons, List.mem_cons, not_or, List.not_mem_nil, not_false_eq_true, and_true] at hn
  obtain ⟨⟨n12, n13, n14, n15, n16⟩, ⟨n23, n24, n25, n26⟩, ⟨n34, n35, n36⟩, ⟨n45, n46⟩, n56⟩ := hn
  obtain ⟨v1, h1, s1, hr1⟩ := exOps_cons hr
  have s1' := s1
  simp only [stepOp, guarded, exOp, aop, ev, hm, Option.some.injEq, Prod.mk.injEq] at s1'
  obtain ⟨rfl, rfl⟩ := s1'
  obtain ⟨v2, h2, s2, hr2⟩ := exOps_cons hr1
  have s2' := s2
  simp only [stepOp, guarded, exOp, aop] at s2'
  obtain rfl := ld_mem s2'
  obtain ⟨v3, h3, s3, hr3⟩ := exOps_cons hr2
  have s3' := s3
  have e1 : ∀ (v : AV) (e : Env), ev ((a2, v) :: (a1, AV.mp c) :: e) (.t a1) = .mp c := fun v e => by simp [ev, eget, Ne.symm n12]
  have e2 : ∀ (v : AV) (e : Env), ev ((a2, v) :: e) (.t a2) = v := fun v e => by simp [ev, eget]
  simp only [stepOp, guarded, exOp, aop, eput, e1, e2] at s3'
  obtain ⟨rfl, -⟩ := lkp_in s3'
  obtain ⟨v4, h4, s4, hr4⟩ := exOps_cons hr3
  have s4' := s4
  simp only [stepOp, guarded, exOp, aop] at s4'
  obtain rfl := pure_mem s4'
  obtain ⟨v5, h5, s5, hr5⟩ := exOps_cons hr4
  have s5' := s5
  simp only [exOps, Option.some.injEq, Prod.mk.injEq] at hr5
  obtain ⟨rfl, rfl⟩ := hr5
  simp only [stepOp, guarded, exOp, aop, eput] at s5'
  have g1 : ev ((a4, v4) :: (a3, v3) :: (a2, v2) :: (a1, AV.mp c) :: ce) (.t a1) = .mp c := by simp [ev, eget, Ne.symm n12, Ne.symm n13, Ne.symm n14]
  have g2 : ev ((a4, v4) :: (a3, v3) :: (a2, v2) :: (a1, AV.mp c) :: ce) (.t a2) = v2 := by simp [ev, eget, Ne.symm n23, Ne.symm n24]
  have g4 : ev ((a4, v4) :: (a3, v3) :: (a2, v2) :: (a1, AV.mp c) :: ce) (.t a4) = v4 := by simp [ev, eget]
  simp only [g1, g2, g4] at s5'
  split at s5'
  rotate_left
  · cases s5'
  rename_i hcl
  obtain ⟨rfl, y, n, hx, p1, p2, p3⟩ := ent_put (z := .i .i64 0) hb hbo s5'
  refine ⟨.tup [y, .i .i64 n], .i .i64 n, _, exTr_cons s1 (exTr_cons s2 (exTr_cons s3 (exTr_cons s4 (exTr_cons (v := .tup [y, .i .i64 n]) (h' := hx) ?_ (exTr_cons (v := .i .i64 n) (h' := hx) ?_ (exTr_cons (v := .tup []) (h' := h5) ?_ (by simp only [exTr, eput]; rfl))))))), ?_⟩
  · simp only [stepOp, guarded, exOp, aop, eput, g1, g2, hcl.1, if_true, p1]
  · simp only [stepOp, guarded, exOp, aop, eput, ev, eget, if_true, pureh, aext]
    rfl
  · simp only [stepOp, guarded, exOp, aop, eput]
    have q1 : ev ((a6, AV.i .i64 n) :: (a5, .tup [y, .i .i64 n]) :: (a4, v4) :: (a3, v3) :: (a2, v2) :: (a1, AV.mp c) :: ce) (.t a1) = .mp c := by simp [ev, eget, Ne.symm n12, Ne.symm n13, Ne.symm n14, Ne.symm n15, Ne.symm n16]
    have q4 : ev ((a6, AV.i .i64 n) :: (a5, .tup [y, .i .i64 n]) :: (a4, v4) :: (a3, v3) :: (a2, v2) :: (a1, AV.mp c) :: ce) (.t a4) = v4 := by simp [ev, eget, Ne.symm n45, Ne.symm n46]
    have q6 : ev ((a6, AV.i .i64 n) :: (a5, .tup [y, .i .i64 n]) :: (a4, v4) :: (a3, v3) :: (a2, v2) :: (a1, AV.mp c) :: ce) (.t a6) = .i .i64 n := by simp [ev, eget]
    simp only [q1, q4, q6, hcl.2, if_true, p2]
  · simp only [rcOk, incB, List.all_cons, List.all_nil, Bool.and_true, rcOne, List.getElem?_cons_zero, List.getElem?_cons_succ, guarded, aop, eput, Option.map_some, Option.getD_some, e1, e2]
    rw [p3 _ s3']
    simp
section
variable {T : AT} {k : Nat} {Q : XT → SE → SH → Prop} {e : SE} {h : SH}
theorem keepE_ne {a : Nat} {v : AV} {e : Env} : ∀ {kp : List Nat}, a ∉ kp → keepE kp ((a, v) :: e) = keepE kp e
  | [], _ => rfl
  | b :: kp, hn => by
    have h1 : a ≠ b := fun e => hn (by rw [e]; exact .head _)
    simp only [keepE, List.map_cons, eget, h1, if_false]
    congr 1
    exact keepE_ne fun h => hn (.tail _ h)
/-- counting up in a map -/
theorem W2_inc {m x a1 a2 a3 a4 a5 a6 : Nat} {sz : Option Nat} {kk : KK} {kp : List Nat} {id : Nat} {es : List (SV × SV)} (hn : [a1, a2, a3, a4, a5, a6].Nodup) (h5 : a5 ∉ kp) (h6 : a6 ∉ kp) (hm : eg e m = .mp id) (hb : bAt h id = some (.map es))
    (hw : W2 T k (.reg (incA m x a1 a2 a3 a4 sz kk) kp) e h Q) : W2 T k (.regd (incB m x a1 a2 a3 a4 a5 a6 sz kk) [(2, 6)] kp) e h Q := by
  refine ⟨fun w ce ch r re => ?_⟩
  obtain ⟨n, t, ce', ch', w', e', h', q1, q2⟩ := hw.run w ce ch r re
  have hma : mapAt (.mp id) h = some (id, es) := by simp only [mapAt, hb]
  have hre := re m
  rw [hm] at hre
  obtain ⟨c, ces, cl, hc, _, _, hbl, _, hbo⟩ := mapAt_ok r hre hma
  simp only [exC] at q1
  split at q1
  · rename_i e5 c5 hx
    cases q1
    obtain ⟨v5, v6, tr, t1, t2⟩ := inc_ex (a5 := a5) (a6 := a6) hn hc hbl hbo hx
    refine ⟨n, .nrm, _, _, w', e', h', ?_, q2⟩
    simp only [exC, t1, t2, if_true, keepE_ne h6, keepE_ne h5]
  · cases q1
/-- the rest of a region whose guards are all known -/
theorem WO2_finl {l : List AOp} {kp : List Nat} {c : AC} {e' : SE} {h' : SH} (hr : runK2l l kp e h = some (e', h')) (hq : W2 T k c e' h' Q) : WO2 T k l e h fun e h => W2 T k c (kp.map fun s => (s, eg e s)) h Q := by
  have hr := runK2l_eq hr
  unfold runK2 at hr
  split at hr
  · rename_i h1; cases hr; exact run2_sound h1 hq
  · cases hr
theorem WO2_finlq {l : List AOp} {kp : List Nat} {e' : SE} {h' : SH} (hr : runK2l l kp e h = some (e', h')) (hq : Q .nrm e' h') : WO2 T k l e h fun e h => Q .nrm (kp.map fun s => (s, eg e s)) h := WO2_fin (runK2l_eq hr) hq
/-- is an empty list nil? either -/
theorem W2_eqn {d1 d2 a esz : Nat} {kp : List Nat} (hd : d1 ≠ d2) (ha : eg e a = .fz esz []) (hq : ∀ b : Bool, Q .nrm (kp.map fun s => (s, eg ((d2, .p (.b b)) :: (d1, .fz esz []) :: e) s)) h) :
    W2 T k (.reg [⟨some d1, none, .mv (.t a)⟩, ⟨some d2, none, .eq .sl false (.t d1) (.c .nils)⟩] kp) e h Q := by
  refine ⟨fun w ce ch r re => ?_⟩
  have hra := re a
  rw [ha] at hra
  obtain ⟨b, hb⟩ : ∃ b, aeq .sl (eget ce a) .nils = some b := by
    generalize eget ce a = v at hra
    cases hra with | p hra =>
    cases hra with
    | fz0 => exact ⟨_, rfl⟩
    | fz1 => exact ⟨_, rfl⟩
    | fz => exact ⟨_, rfl⟩
  have s1 : stepOp (exN T 0) ⟨some d1, none, .mv (.t a)⟩ ce ch = some (eget ce a, ch) := rfl
  have s2 : stepOp (exN T 0) ⟨some d2, none, .eq .sl false (.t d1) (.c .nils)⟩ (eput ce (some d1) (eget ce a)) ch = some (.b b, ch) := by
    have : eget ((d1, eget ce a) :: ce) d1 = eget ce a := by simp [eget]
    simp only [stepOp, guarded, exOp, aop, eput, ev, this, hb, pureh, Option.map_some]
    cases b <;> rfl
  refine ⟨0, .nrm, _, ch, w, _, h, by simp only [exC, exOps, s1, s2]; rfl, hq b, r, ?_, Fr.refl ..⟩
  exact keep2 ((re.put hra (some d1)).put (.p (.b b)) (some d2)) kp
end
/-! ### short names, so that texts that walk stay small -/
section
abbrev qA := @thn2_nrm
abbrev qB := @thn2_ret
abbrev qC := @thn2_ex
abbrev qD := @blk2_nrm
abbrev qE := @blk2_ret
abbrev qF := @blk2_at
abbrev qG := @blk2_ex
abbrev qH := @W2_sas
abbrev qI := @W2_ss
abbrev qJ := @W2_sret
abbrev qK := @W2_sexit
abbrev qL := @W2_sra
abbrev qM := @W2_srda
abbrev qN := @W2_runa
abbrev qO := @W2_runda
abbrev qP := @W2_srS
abbrev qQ := @W2_runS
abbrev qR := @W2_sct
abbrev qS := @W2_t2
abbrev qT := @W2_scf
abbrev qU := @W2_f2
abbrev qV := @W2_ret
abbrev qW := @W2_exit
abbrev qX := @W2_skip
abbrev qY := @W2_seq
abbrev qZ := @W2_block
abbrev pA := @W2_scall
abbrev pB := @W2_scalld
abbrev pC := @W2_calla
abbrev pD := @W2_callda
abbrev pE := @run2a_sound
abbrev pF := @W2_scallS
abbrev pG := @W2_callS
end
end Go.Proofs.Ytadbipeachcekaa.Ab
