/- The second machine: calls that only read what they are lent. -/
import Derived.Test.YtpgoemmjhnnmoaaSx11
namespace Go.Proofs.Ytpgoemmjhnnmoaa.Ab
open Go
set_option linter.unusedVariables false
def PV.flat : PV → Bool
  | .fz _ _ => false
  | .fp _ _ => false
  | _ => true
mutual
def SV.flat : SV → Bool
  | .p v => v.flat
  | .fn _ a c => SV.flats a && SV.flats c
  | .agg cs => SV.flats cs
  | .tup cs => SV.flats cs
  | .alt _ v => v.flat
  | .ptr _ _ => true
  | .ep _ _ _ _ => true
  | .sl _ _ _ _ _ => true
  | .so _ _ _ _ => true
  | .mp _ => true
  | .un => true
termination_by structural x => x
def SV.flats : List SV → Bool
  | [] => true
  | v :: r => SV.flat v && SV.flats r
termination_by structural x => x
end
theorem flats_get : ∀ {l : List SV} {j : Nat} {x : SV}, SV.flats l = true → l[j]? = some x → x.flat = true
  | v :: r, 0, x, h, hx => by simp at hx; subst hx; simp [SV.flats] at h; exact h.1
  | v :: r, j + 1, x, h, hx => by simp at hx; simp [SV.flats] at h; exact flats_get h.2 hx
def B2.flat : B2 → Prop
  | .obj cs => SV.flats cs = true
  | .arr _ els => ∀ el ∈ els, ∀ c ∈ el, PV.flat c = true
  | .map es => ∀ x ∈ es, x.1.flat = true ∧ x.2.flat = true
def SH.flat (h : SH) : Prop := ∀ b, some b ∈ h → b.flat
def SH.cv (f : Nat → Option Nat) (h : SH) : SH := h.map (Option.map (B2.cv f))
def lendA : List Nat → List SV → SH → List SV
  | [], a, _ => SV.cvs (idx []) a
  | i :: r, a, h => lendA r (SV.frzs h i a) (SH.frz i h)
def lendOk : List Nat → SH → Bool
  | [], _ => true
  | i :: r, h => (bAt h i).isSome && lendOk r (SH.frz i h)
section
variable {T : AT} {k k' : Nat} {Q : XT → SE → SH → Prop} {K : SE → SH → Prop} {e : SE} {h : SH}
theorem cv_all {f : Nat → Option Nat} (hf : ∀ i, f i = some i) : ∀ (v : SV), v.cv f = v := by
  have : (∀ v : SV, v.cv f = v) ∧ (∀ l : List SV, SV.cvs f l = l) := by
    refine ⟨fun v => ?_, fun l => ?_⟩
    · exact SV.rec (motive_1 := fun v => v.cv f = v) (motive_2 := fun l => SV.cvs f l = l) (fun v => rfl) (fun id off => by simp [SV.cv, hf]) (fun a b c d => by simp [SV.cv, hf]) (fun a b c d e => by simp [SV.cv, hf]) (fun a b c d => by simp [SV.cv, hf]) (fun a => by simp [SV.cv, hf])
        (fun g a c h1 h2 => by simp [SV.cv, h1, h2]) (fun cs h => by simp [SV.cv, h]) (fun cs h => by simp [SV.cv, h]) (fun P v h => by simp [SV.cv, h]) rfl rfl (fun a b h1 h2 => by simp [SV.cvs, h1, h2]) v
    · exact SV.rec_1 (motive_1 := fun v => v.cv f = v) (motive_2 := fun l => SV.cvs f l = l) (fun v => rfl) (fun id off => by simp [SV.cv, hf]) (fun a b c d => by simp [SV.cv, hf]) (fun a b c d e => by simp [SV.cv, hf]) (fun a b c d => by simp [SV.cv, hf]) (fun a => by simp [SV.cv, hf])
        (fun g a c h1 h2 => by simp [SV.cv, h1, h2]) (fun cs h => by simp [SV.cv, h]) (fun cs h => by simp [SV.cv, h]) (fun P v h => by simp [SV.cv, h]) rfl rfl (fun a b h1 h2 => by simp [SV.cvs, h1, h2]) l
  exact this.1
theorem cve_all {f : Nat → Option Nat} (hf : ∀ i, f i = some i) : ∀ (e : SE), e.cv f = e
  | [] => rfl
  | (s, v) :: r => by simp [SE.cv, cv_all hf, cve_all hf r]
theorem cvb_all {f : Nat → Option Nat} (hf : ∀ i, f i = some i) (b : B2) : b.cv f = b := by
  cases b with
  | obj cs => simp only [B2.cv, cvs_map, funext (cv_all hf)]; congr 1; exact List.map_id' cs
  | arr => rfl
  | map es => simp only [B2.cv, cv_all hf]; congr 1; exact List.map_id' es
theorem kills_nil (i : Nat) : kills [] i = some i := rfl
theorem back_nil (h h' : SH) : back [] k h h' = h ++ SH.cv (gback [] h.length) h' := by
  have h1 : ∀ (h : SH) (i n : Nat), back1 [] k n h' i h = h := fun h => by
    induction h with
    | nil => intro i n; rfl
    | cons b r ih =>
      intro i n
      simp only [back1, idx, List.drop_nil]
      rw [ih]
      congr 1
      cases b with
      | none => rfl
      | some b => simp [cvb_all kills_nil]
  rw [back, h1]
  rfl
/-- a call that is handed nothing -/
theorem CK_pure {d : Option Nat} {g : Nat} {args : List SV} {rest : List AOp} {args0 : List SV} {R : SV → SH → Prop} (spec : Ret2 T k' g args0 [] R) (ha : SV.cvs (idx []) args = args0)
    (hk : ∀ v h', R v h' → WO2 T k rest (epu e d (v.cv (gback [] h.length))) (h ++ SH.cv (gback [] h.length) h') K) : CK T k K e h (some ⟨d, g, args, rest⟩) := by
  refine CK_call [] spec .nil (by simp) (by simp [pinsOk]) ha rfl fun v h' hr => ?_
  have := hk v h' hr
  rw [back_nil, List.drop_nil, cve_all kills_nil]
  exact this
theorem P2.of_bind {w : Wd} {n : Nat} : ∀ {l : List SV} {cl : List AV} {j : Nat}, l.length = cl.length → RE w n (bindS j l) (bindA j cl) → P2 (RS w n) l cl
  | [], [], j, _, _ => .nil
  | v :: l, c :: cl, j, hl, he => by
    have h0 := he j
    simp only [bindS, bindA, eg, eget, if_true] at h0
    refine .cons h0 (P2.of_bind (j := j + 1) (by simpa using hl) fun s => ?_)
    have := he s
    simp only [bindS, bindA, eg, eget] at this
    split at this
    · rename_i hs
      subst hs
      have h1 : ∀ (l : List SV) (i : Nat), j < i → eg (bindS i l) j = .un := fun l => by
        induction l with
        | nil => intro i _; rfl
        | cons a l ih => intro i hi; simp only [bindS, eg]; rw [if_neg (by omega)]; exact ih _ (by omega)
      rw [h1 _ _ (Nat.lt_succ_self _)]
      exact .un
    · exact this
theorem lend_ok : ∀ {ids : List Nat} {args : List SV} {cargs : List AV} {h : SH} {w : Wd} {ch : AH}, RH w h ch → P2 (RS w h.length) args cargs → lendOk ids h = true →
    ∃ w0, RH w0 [] ch ∧ P2 (RS w0 0) (lendA ids args h) cargs ∧ Fr 0 w h ch w0 [] ch
  | [], args, cargs, h, w, ch, r, hp, _ => by
    have hv := Wk.view (k := 0) (e := []) (h := h) [] .nil rfl w [] ch r (fun s => .un)
    refine ⟨w.vw [] h.length, r.view .nil, hp.cv (view_cv (σ := [])), ?_⟩
    refine ⟨Nat.le_refl _, fun _ _ h => h, fun _ _ => rfl, fun _ _ _ => rfl, fun i hi => by omega, fun i b c hi => by simp at hi, fun _ _ h => .inl h⟩
  | i :: r, args, cargs, h, w, ch, hr, hp, hok => by
    simp only [lendOk, Bool.and_eq_true] at hok
    obtain ⟨w1, a1, a2, a3⟩ := Wk.frz (k := 0) (e := bindS 0 args) i hok.1 w (bindA 0 cargs) ch hr (bindS_ok hp)
    have e1 : ∀ (l : List SV) (j : Nat), (bindS j l).frz h i = bindS j (SV.frzs h i l) := fun l => by
      induction l with
      | nil => intro j; rfl
      | cons v l ih => intro j; simp only [bindS, SE.frz, SV.frzs, ih]
    rw [e1] at a2
    have hp1 : P2 (RS w1 (SH.frz i h).length) (SV.frzs h i args) cargs := P2.of_bind (by rw [frzs_map, List.length_map]; exact hp.1) a2
    obtain ⟨w0, b1, b2, b3⟩ := lend_ok (ids := r) a1 hp1 hok.2
    exact ⟨w0, b1, b2, a3.trans b3⟩
theorem RP.flat {fro fro' : Fro} {v : PV} {a : AV} (h : RP fro v a) (hf : v.flat = true) : RP fro' v a := by
  cases h with
  | fz0 => simp [PV.flat] at hf
  | fz1 => simp [PV.flat] at hf
  | fz => simp [PV.flat] at hf
  | fp => simp [PV.flat] at hf
  | _ => constructor
theorem RS.flat {w w' : Wd} {n n' : Nat} {f : Nat → Option Nat} (hρ : ∀ i j, i < n → f i = some j → j < n' ∧ w'.ρ j = w.ρ i) (hrl : ∀ i c, i < n → w.ρ i = some c → w'.rl c = w.rl c) {v : SV} {a : AV} (h : RS w n v a) (hf : v.flat = true) : RS w' n' (v.cv f) a := by
  induction h with
  | p h => exact .p (h.flat hf)
  | ptr hi h =>
    simp only [SV.cv]
    split
    · rename_i j hj; have := hρ _ _ hi hj; exact .ptr this.1 (this.2.trans h)
    · exact .un
  | ep hi h =>
    simp only [SV.cv]
    split
    · rename_i j hj; have := hρ _ _ hi hj; exact .ep this.1 (this.2.trans h)
    · exact .un
  | sl hi h he hcap hl hlo hr =>
    simp only [SV.cv]
    split
    · rename_i j hj; have := hρ _ _ hi hj; exact .sl this.1 (this.2.trans h) he hcap hl hlo (by rw [hrl _ _ hi h]; exact hr)
    · exact .un
  | slv hi h hcap =>
    simp only [SV.cv]
    split
    · rename_i j hj; have := hρ _ _ hi hj; exact .slv this.1 (this.2.trans h) hcap
    · exact .un
  | so hi h hs =>
    simp only [SV.cv]
    split
    · rename_i j hj; have := hρ _ _ hi hj; exact .so this.1 (this.2.trans h) hs
    · exact .un
  | mp hi h =>
    simp only [SV.cv]
    split
    · rename_i j hj; have := hρ _ _ hi hj; exact .mp this.1 (this.2.trans h)
    · exact .un
  | fn h1 h2 h3 h4 i2 i4 =>
    simp only [SV.flat, Bool.and_eq_true] at hf
    simp only [SV.cv, cvs_map]
    refine .fn (by simpa using h1) (fun j s q hs hq => ?_) (by simpa using h3) (fun j s q hs hq => ?_)
    · obtain ⟨x, hx, rfl⟩ := get_map hs; exact i2 j x q hx hq (flats_get hf.1 hx)
    · obtain ⟨x, hx, rfl⟩ := get_map hs; exact i4 j x q hx hq (flats_get hf.2 hx)
  | agg h1 h2 ih =>
    simp only [SV.flat] at hf
    simp only [SV.cv, cvs_map]
    refine .agg (by simpa using h1) (fun j s q hs hq => ?_)
    obtain ⟨x, hx, rfl⟩ := get_map hs; exact ih j x q hx hq (flats_get hf hx)
  | tup h1 h2 ih =>
    simp only [SV.flat] at hf
    simp only [SV.cv, cvs_map]
    refine .tup (by simpa using h1) (fun j s q hs hq => ?_)
    obtain ⟨x, hx, rfl⟩ := get_map hs; exact ih j x q hx hq (flats_get hf hx)
  | altT hp h ih => exact .altT hp (ih hf)
  | altF hp => exact .altF hp
  | un => exact .un
open Classical in
/-- the world behind a call that was lent something: what was lent is the caller's again -/
noncomputable def Wd.lent (w w1 : Wd) (h : SH) (n1 : Nat) : Wd :=
  ⟨fun i => if i < h.length then w.ρ i else (if i - h.length < n1 then w1.ρ (i - h.length) else none), fun c => if ∃ (j : Nat) (b : B2), h[j]? = some (some b) ∧ w.ρ j = some c then none else w1.fro c, w1.rl⟩
/-- a call that reads what it is lent -/
theorem CK_lend {d : Option Nat} {g : Nat} {args : List SV} {rest : List AOp} {args0 : List SV} {R : SV → SH → Prop} (ids : List Nat) (spec : Ret2 T k' g args0 [] R) (hok : lendOk ids h = true) (ha : lendA ids args h = args0)
    (hk : ∀ v h', R v h' → v.flat = true ∧ h'.flat ∧ WO2 T k rest (epu e d (v.cv (gback [] h.length))) (h ++ SH.cv (gback [] h.length) h') K) : CK T k K e h (some ⟨d, g, args, rest⟩) := by
  subst ha
  intro w ce ch cargs r he hargs
  obtain ⟨w0, r0, hp0, f0⟩ := lend_ok r hargs hok
  obtain ⟨n, cv, ch1, w1, v, h1, b1, b2, b3, b4, b5⟩ := spec.run w0 cargs ch r0 hp0
  obtain ⟨hfv, hfh, hk⟩ := hk v h1 b2
  have hsame : ∀ c, c < ch.next → ch1.blk c = ch.blk c := fun c hc => b5.same c hc fun i b hi => by simp at hi
  have hrl : ∀ c, c < ch.next → w1.rl c = w.rl c := fun c hc => (b5.rl c hc).trans (f0.rl c hc)
  have hρ0 : ∀ i, i < h.length → (w.lent w1 h h1.length).ρ i = w.ρ i := fun i hi => by simp only [Wd.lent]; rw [if_pos hi]
  have hρ1 : ∀ i, i < h1.length → (w.lent w1 h h1.length).ρ (h.length + i) = w1.ρ i := fun i hi => by
    simp only [Wd.lent]; rw [if_neg (by omega), show h.length + i - h.length = i by omega, if_pos hi]
  have hlive : ∀ {i : Nat} {b : B2} {c : Nat}, h1[i]? = some (some b) → w1.ρ i = some c → ch.next ≤ c := fun {i b c} hi hc => by
    rcases b5.src i b c hi hc with ⟨j, b', hj, _⟩ | h0
    · simp at hj
    · exact h0
  have hfro : ∀ id row, w.fro id = some row → (w.lent w1 h h1.length).fro id = some row := fun id row hf => by
    simp only [Wd.lent]
    rw [if_neg]
    · exact b5.fro _ _ (f0.fro _ _ hf)
    · rintro ⟨j, b, hj, hc⟩
      rw [r.nf j b id hj hc] at hf; cases hf
  have hle : Le h.length w (w.lent w1 h h1.length) := ⟨hρ0, hfro, fun i c hi hc => hrl c (r.lt i c hi hc)⟩
  have hlen : (h ++ SH.cv (gback [] h.length) h1).length = h.length + h1.length := by simp [SH.cv]
  have hgρ : ∀ i j, i < h1.length → gback [] h.length i = some j → j < (h ++ SH.cv (gback [] h.length) h1).length ∧ (w.lent w1 h h1.length).ρ j = w1.ρ i := fun i j hi hj => by
    simp [gback] at hj
    subst hj
    exact ⟨by rw [hlen]; omega, hρ1 i hi⟩
  have hgrl : ∀ i c, i < h1.length → w1.ρ i = some c → (w.lent w1 h h1.length).rl c = w1.rl c := fun _ _ _ _ => rfl
  have hget : ∀ {i : Nat} {b : B2}, (h ++ SH.cv (gback [] h.length) h1)[i]? = some (some b) → (i < h.length ∧ h[i]? = some (some b)) ∨ (∃ j b0, i = h.length + j ∧ h1[j]? = some (some b0) ∧ b = b0.cv (gback [] h.length)) := fun {i b} hb => by
    by_cases hi : i < h.length
    · rw [List.getElem?_append_left hi] at hb; exact .inl ⟨hi, hb⟩
    · rw [List.getElem?_append_right (by omega)] at hb
      obtain ⟨y, h2, h3⟩ := get_map hb
      cases y with
      | none => simp at h3
      | some b0 => simp at h3; exact .inr ⟨_, b0, by omega, h2, h3⟩
  refine ⟨n, cv, ch1, w.lent w1 h h1.length, _, _, b1, ⟨?_, ?_, ?_, ?_, ?_, ?_⟩, ((he.mono hle (by rw [hlen]; omega)).put (b4.flat hgρ hgrl hfv) d), ⟨b5.nx, hfro, hrl, fun c hc _ => hsame c hc, fun i _ hi => ⟨by rw [hlen]; omega, hρ0 i hi⟩, ?_, ?_⟩, hk⟩
  · intro i j bi bj c hi hj hci hcj
    rcases hget hi with ⟨a1, a2⟩ | ⟨x, b0, rfl, a2, a3⟩ <;> rcases hget hj with ⟨c1, c2⟩ | ⟨y, b0', rfl, c2, c3⟩
    · rw [hρ0 _ a1] at hci; rw [hρ0 _ c1] at hcj; exact r.inj _ _ _ _ c a2 c2 hci hcj
    · rw [hρ0 _ a1] at hci; rw [hρ1 _ (live_lt c2)] at hcj
      have := hlive c2 hcj; have := r.lv a2 hci; omega
    · rw [hρ0 _ c1] at hcj; rw [hρ1 _ (live_lt a2)] at hci
      have := hlive a2 hci; have := r.lv c2 hcj; omega
    · rw [hρ1 _ (live_lt a2)] at hci; rw [hρ1 _ (live_lt c2)] at hcj
      rw [b3.inj _ _ _ _ c a2 c2 hci hcj]
  · intro i c hi hc
    simp only [Wd.lent] at hc
    split at hc
    · rename_i hlt; exact Nat.lt_of_lt_of_le (r.lt i c hlt hc) b5.nx
    · split at hc
      · rename_i hlt; exact b3.lt _ c hlt hc
      · cases hc
  · intro i b c hi hc
    rcases hget hi with ⟨a1, a2⟩ | ⟨x, b0, rfl, a2, a3⟩
    · rw [hρ0 _ a1] at hc
      simp only [Wd.lent]
      rw [if_pos ⟨i, b, a2, hc⟩]
    · rw [hρ1 _ (live_lt a2)] at hc
      simp only [Wd.lent]
      split
      · rfl
      · exact b3.nf x b0 c a2 hc
  · intro id row hf
    simp only [Wd.lent] at hf
    split at hf
    · cases hf
    · exact b3.fro id row hf
  · intro i b c hi hc
    rcases hget hi with ⟨a1, a2⟩ | ⟨x, b0, rfl, a2, rfl⟩
    · rw [hρ0 _ a1] at hc
      obtain ⟨cb, h3, h4⟩ := r.blk i b c a2 hc
      have hcl := r.lv a2 hc
      exact ⟨cb, by rw [hsame c hcl]; exact h3, h4.mono hle (by rw [hlen]; omega) (hrl c hcl)⟩
    · rw [hρ1 _ (live_lt a2)] at hc
      obtain ⟨cb, h3, h4⟩ := b3.blk x b0 c a2 hc
      refine ⟨cb, h3, ?_⟩
      have hfb := hfh b0 (List.mem_of_getElem? a2)
      cases h4 with
      | @obj cs ccs q1 q2 =>
        refine .obj q1 ?_
        rw [cvs_map]
        refine P2.map ⟨q2.1, fun j s a hs ha => (q2.2 j s a hs ha).flat hgρ hgrl (flats_get hfb hs)⟩
      | @arr esz els ccs q1 he q2 =>
        refine .arr q1 he ⟨q2.1, q2.2.1, fun j el t c' a hj ht ha => (q2.2.2 j el t c' a hj ht ha).flat (hfb el (List.mem_of_getElem? hj) c' (List.mem_of_getElem? ht))⟩
      | @map es ces cl q =>
        refine .map (P2.map ⟨q.1, fun j s a hs ha => ?_⟩)
        have := q.2 j s a hs ha
        have hf := hfb s (List.mem_of_getElem? hs)
        exact ⟨this.1.flat hgρ hgrl hf.1, this.2.flat hgρ hgrl hf.2⟩
  · intro i b hi hc
    rcases hget hi with ⟨a1, a2⟩ | ⟨x, b0, rfl, a2, rfl⟩
    · rw [hρ0 _ a1] at hc; exact r.vir i b a2 hc
    · rw [hρ1 _ (live_lt a2)] at hc
      obtain ⟨esz, h3⟩ := b3.vir x b0 a2 hc
      exact ⟨esz, by rw [h3]; rfl⟩
  · intro i b c hi hc
    rcases hget hi with ⟨a1, a2⟩ | ⟨x, b0, rfl, a2, rfl⟩
    · rw [hρ0 _ a1] at hc; exact .inl ⟨i, b, a2, hc⟩
    · rw [hρ1 _ (live_lt a2)] at hc; exact .inr (hlive a2 hc)
  · intro id row hf
    simp only [Wd.lent] at hf
    split at hf
    · cases hf
    · rename_i hno
      rcases b5.frz id row hf with h0 | h0 | ⟨j, b', hj, _⟩
      · rcases f0.frz id row h0 with g0 | g0 | ⟨j, b', hj, hc⟩
        · exact .inl g0
        · exact .inr (.inl g0)
        · exact (hno ⟨j, b', hj, hc⟩).elim
      · exact .inr (.inl h0)
      · simp at hj
/-! ### less is known of a row -/
theorem Wk.cap (s : Nat) {esz id off len : Nat} {cap : Option Nat} (hs : eg e s = .sl esz id off len cap) : Wk k e h (nilS s (.sl esz id off len none) e) h := fun w ce ch r he => by
  refine ⟨w, r, fun t => ?_, .refl _ _ _ _⟩
  rcases nilS_get (v := .sl esz id off len none) t e with h1 | ⟨h1, h2⟩
  · rw [h1]; exact he t
  · rw [h2]
    have h0 := he t
    rw [h1, hs] at h0
    rw [h1]
    generalize eget ce s = z at h0
    cases h0 with
    | sl hi h he hc hl hlo hr => exact .sl hi h he (by simp) hl hlo hr
    | slv hi h hc => exact .slv hi h (by simp)
theorem Wk.setB (id : Nat) {b b' : B2} (hb : bAt h id = some b) (hbb : ∀ w c cb, RB w h.length c b cb → RB w h.length c b' cb) (hv : ∀ esz, b = .arr esz [] → b' = .arr esz []) : Wk k e h e (h.set id (some b')) := fun w ce ch r he => by
  have hbi := bAt_eq hb
  have hil := live_lt hbi
  cases hc : w.ρ id with
  | none =>
    obtain ⟨esz, h1⟩ := r.vir id _ hbi hc
    have h2 := hv esz h1
    have e1 : h.set id (some b') = h := by
      apply List.ext_getElem?
      intro i
      rw [List.getElem?_set]
      split
      · rename_i hi; subst hi; rw [hbi, h1, h2]; (try simp [hil])
      · rfl
    rw [e1]
    exact ⟨w, r, he, .refl _ _ _ _⟩
  | some c =>
    obtain ⟨cb, h1, h2⟩ := r.blk id _ c hbi hc
    obtain ⟨s1, s2⟩ := r.set (k := k) hbi hc (hbb w c cb h2)
    have e2 : ch.set c (some cb) = ch := by
      cases ch with | mk nx bl =>
      simp only [AH.set]
      congr 1
      funext j
      split
      · rename_i hj; subst hj; exact h1.symm
      · rfl
    rw [e2] at s1 s2
    exact ⟨w, s1, by simpa using he, s2⟩
theorem Wk.row (id m : Nat) {esz : Nat} {els : List (List PV)} (hb : bAt h id = some (.arr esz els)) : Wk k e h e (h.set id (some (.arr esz (els.take m)))) :=
  Wk.setB id hb (fun w c cb h => by cases h with | arr h1 he h2 => exact .arr h1 he (h2.take m)) (fun esz' h => by cases h; simp)
theorem Wk.capc (id off : Nat) {cs : List SV} {esz d o len : Nat} {cap : Option Nat} (hb : bAt h id = some (.obj cs)) (hs : cs[off]? = some (.sl esz d o len cap)) : Wk k e h e (h.set id (some (.obj (cs.set off (.sl esz d o len none))))) :=
  Wk.setB id hb (fun w c cb h => by
    cases h with
    | @obj _ ccs h1 h2 =>
      refine .obj h1 ⟨by simpa using h2.1, fun j x y hx hy => ?_⟩
      rw [List.getElem?_set] at hx
      split at hx
      · rename_i he
        subst he
        split at hx
        · cases hx
          have := h2.2 off _ y hs hy
          cases this with
          | sl hi h he hc hl hlo hr => exact .sl hi h he (by simp) hl hlo hr
          | slv hi h hc => exact .slv hi h (by simp)
        · cases hx
      · exact h2.2 j x y hx hy) (fun esz' h => by cases h)
/-- nil in a slot is an empty list that stays -/
theorem Wk.nilf (s esz : Nat) (hs : eg e s = .nils) : Wk k e h (nilS s (.fz esz []) e) h := fun w ce ch r he => by
  refine ⟨w, r, fun t => ?_, .refl _ _ _ _⟩
  rcases nilS_get (v := .fz esz []) t e with h1 | ⟨h1, h2⟩
  · rw [h1]; exact he t
  · rw [h2]
    have h0 := he t
    rw [h1, hs] at h0
    rw [h1]
    generalize eget ce s = z at h0
    cases h0 with | p h0 => cases h0 with | nils => exact .p (.fz0 _)
end
end Go.Proofs.Ytpgoemmjhnnmoaa.Ab
