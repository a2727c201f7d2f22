/- The second machine: lists that come to stay; lists that are lent; lists that aren't there yet. -/
import Derived.Test.YtpgoemmjhnnmoaaSx10
namespace Go.Proofs.Ytpgoemmjhnnmoaa.Ab
open Go
set_option linter.unusedVariables false
/-! ### for good -/
mutual
def SV.frz (h : SH) (id : Nat) : SV → SV
  | .p v => .p v
  | .ptr d off => if d = id then (match bAt h id with | some (.obj cs) => (match pvs cs with | some ps => .p (.fp ps off) | none => .un) | _ => .un) else .ptr d off
  | .ep esz d j t => if d = id then (match bAt h id with | some (.arr e' els) => (if e' = esz then (match els[j]? with | some el => .p (.fp el t) | none => .un) else .un) | _ => .un) else .ep esz d j t
  | .sl esz d off len cap => if d = id then (match bAt h id with | some (.arr e' els) => if e' = esz ∧ off + len ≤ els.length then .p (.fz esz ((els.drop off).take len)) else .un | _ => .un) else .sl esz d off len cap
  | .so esz d off len => .so esz d off len
  | .mp d => .mp d
  | .fn g a c => .fn g (SV.frzs h id a) (SV.frzs h id c)
  | .agg cs => .agg (SV.frzs h id cs)
  | .tup cs => .tup (SV.frzs h id cs)
  | .alt P v => .alt P (SV.frz h id v)
  | .un => .un
termination_by structural x => x
def SV.frzs (h : SH) (id : Nat) : List SV → List SV
  | [] => []
  | v :: r => SV.frz h id v :: SV.frzs h id r
termination_by structural x => x
end
theorem frzs_map (h : SH) (id : Nat) : ∀ (l : List SV), SV.frzs h id l = l.map (SV.frz h id)
  | [] => rfl
  | v :: r => by rw [SV.frzs, frzs_map h id r]; rfl
def B2.frz (h : SH) (id : Nat) : B2 → B2
  | .obj cs => .obj (SV.frzs h id cs)
  | .arr esz els => .arr esz els
  | .map es => .map (es.map fun x => (x.1.frz h id, x.2.frz h id))
def SE.frz (h : SH) (id : Nat) : SE → SE
  | [] => []
  | (s, v) :: r => (s, v.frz h id) :: SE.frz h id r
def SH.frz (id : Nat) (h : SH) : SH := (h.map (Option.map (B2.frz h id))).set id none
/-- the row of a block, kept -/
def Wd.fz (w : Wd) (o : Option (Nat × List AV)) : Wd :=
  match o with
  | some (c, row) => ⟨w.ρ, up w.fro c (some row), w.rl⟩
  | none => w
section
variable {T : AT} {k : Nat} {h : SH} {e : SE} {w : Wd} {ch : AH}
structure FzOk (h : SH) (id : Nat) (w w' : Wd) (n : Nat) : Prop where
  ρ : w'.ρ = w.ρ
  rl : w'.rl = w.rl
  fro : ∀ i row, w.fro i = some row → w'.fro i = some row
  arr : ∀ esz els c, bAt h id = some (.arr esz els) → w.ρ id = some c → ∃ row, w'.fro c = some row ∧ ElsR w'.fro esz els row 0
  obj : ∀ cs c ps, bAt h id = some (.obj cs) → pvs cs = some ps → w.ρ id = some c → ∃ row, w'.fro c = some row ∧ P2 (RP w'.fro) ps row
  vir : ∀ b, bAt h id = some b → w.ρ id = none → ∃ esz, b = .arr esz []
theorem RS.frz {w' : Wd} {n id : Nat} (f : FzOk h id w w' n) {v : SV} {a : AV} (hr : RS w n v a) : RS w' n (v.frz h id) a := by
  have hle : Le n w w' := ⟨fun _ _ => by rw [f.ρ], f.fro, fun _ _ _ _ => by rw [f.rl]⟩
  induction hr with
  | p h => exact .p (h.mono f.fro)
  | @ptr i off c hi hc =>
    simp only [SV.frz]
    split
    · rename_i he
      subst he
      split
      · rename_i cs hb
        split
        · rename_i ps hps
          obtain ⟨row, h1, h2⟩ := f.obj cs c ps hb hps hc
          refine .p ?_
          have := RP.fp (cs := ps) (t := off) (o := 0) h1 (by rw [h2.1]; omega) (fun k x a hx ha => h2.2 k x a hx (by simpa using ha))
          simpa using this
        · exact .un
      · exact .un
    · exact (RS.ptr hi hc).mono hle (Nat.le_refl _)
  | @ep esz i j t c hi hc =>
    simp only [SV.frz]
    split
    · rename_i he
      subst he
      split
      · rename_i e' els hb
        split
        · rename_i he
          subst he
          split
          · rename_i el hel
            obtain ⟨row, h1, h2⟩ := f.arr _ els c hb hc
            have hsz := h2.2.1 _ _ hel
            have hj := (List.getElem?_eq_some_iff.1 hel).1
            have hm := Nat.mul_le_mul_right e' (Nat.succ_le_of_lt hj)
            rw [Nat.succ_mul] at hm
            have hl := h2.len
            exact .p (.fp h1 (by omega) (fun k x a hx ha => h2.at hel hx ha))
          · exact .un
        · exact .un
      · exact .un
    · exact (RS.ep hi hc).mono hle (Nat.le_refl _)
  | @sl esz i off len cap c ccap lo hi hc he hcap hl hlo hr =>
    simp only [SV.frz]
    split
    · rename_i he'
      subst he'
      split
      · rename_i e' els hb
        split
        · rename_i hcond
          obtain ⟨rfl, hin⟩ := hcond
          obtain ⟨row, h1, h2⟩ := f.arr _ els c hb hc
          have hm := Nat.mul_le_mul_right e' hin
          rw [Nat.add_mul] at hm
          have hlen := h2.len
          refine .p (.fz h1 he (by simp; omega) hl hlo (by omega) (fun j el hj => ?_) (fun j el t x a hj hx ha => ?_))
          · rw [List.getElem?_take] at hj
            split at hj
            · rw [List.getElem?_drop] at hj; exact h2.2.1 _ _ hj
            · cases hj
          · rw [List.getElem?_take] at hj
            split at hj
            · rw [List.getElem?_drop] at hj
              refine h2.at hj hx ?_
              rw [← ha, Nat.add_mul]
            · cases hj
        · exact .un
      · exact .un
    · exact (RS.sl hi hc he hcap hl hlo hr).mono hle (Nat.le_refl _)
  | @slv esz i off cap hi hc hcap =>
    simp only [SV.frz]
    split
    · rename_i he'
      subst he'
      split
      · rename_i e' els hb
        split
        · simp only [List.take_zero]; exact .p (.fz0 _)
        · exact .un
      · exact .un
    · exact (RS.slv hi hc hcap).mono hle (Nat.le_refl _)
  | so hi hc hs => exact (RS.so hi hc hs).mono hle (Nat.le_refl _)
  | mp hi hc => exact (RS.mp hi hc).mono hle (Nat.le_refl _)
  | fn h1 h2 h3 h4 i2 i4 =>
    simp only [SV.frz, frzs_map]
    refine .fn (by simpa using h1) (fun j s q hs hq => ?_) (by simpa using h3) (fun j s q hs hq => ?_)
    · obtain ⟨x, hx, rfl⟩ := get_map hs; exact i2 j x q hx hq
    · obtain ⟨x, hx, rfl⟩ := get_map hs; exact i4 j x q hx hq
  | agg h1 h2 ih =>
    simp only [SV.frz, frzs_map]
    refine .agg (by simpa using h1) (fun j s q hs hq => ?_)
    obtain ⟨x, hx, rfl⟩ := get_map hs; exact ih j x q hx hq
  | tup h1 h2 ih =>
    simp only [SV.frz, frzs_map]
    refine .tup (by simpa using h1) (fun j s q hs hq => ?_)
    obtain ⟨x, hx, rfl⟩ := get_map hs; exact ih j x q hx hq
  | altT hp h ih => exact .altT hp ih
  | altF hp => exact .altF hp
  | un => exact .un
theorem P2.frz {w' : Wd} {n id : Nat} (f : FzOk h id w w' n) {l : List SV} {cl : List AV} (hp : P2 (RS w n) l cl) : P2 (RS w' n) (SV.frzs h id l) cl := by
  rw [frzs_map]; exact P2.map (hp.mono fun _ _ h => h.frz f)
theorem RE.frz {w' : Wd} {n id : Nat} (f : FzOk h id w w' n) {e : SE} {ce : Env} (he : RE w n e ce) : RE w' n (e.frz h id) ce := by
  intro s
  have h1 : ∀ (e : SE), eg (e.frz h id) s = (eg e s).frz h id := fun e => by
    induction e with
    | nil => rfl
    | cons p r ih =>
      obtain ⟨m, v⟩ := p
      simp only [SE.frz, eg]
      split
      · rfl
      · exact ih
  rw [h1]
  exact (he s).frz f
theorem RB.frz {w' : Wd} {n id : Nat} (f : FzOk h id w w' n) {c : Nat} {b : B2} {cb : Blk} (hb : RB w n c b cb) : RB w' n c (b.frz h id) cb := by
  cases hb with
  | obj h1 h2 => exact .obj (by rw [f.rl]; exact h1) (h2.frz f)
  | arr h1 he h2 => exact .arr (by rw [f.rl]; exact h1) he (h2.mono f.fro)
  | map h => exact .map (P2.map (h.mono fun x y h => ⟨h.1.frz f, h.2.frz f⟩))
theorem frz_get {id i : Nat} {b : B2} (hb : (SH.frz id h)[i]? = some (some b)) : i ≠ id ∧ ∃ b0, h[i]? = some (some b0) ∧ b = b0.frz h id := by
  rw [SH.frz, List.getElem?_set] at hb
  split at hb
  · split at hb <;> cases hb
  · rename_i hne
    obtain ⟨y, h1, h2⟩ := get_map hb
    cases y with
    | none => simp at h2
    | some b0 => simp at h2; exact ⟨fun e => hne e.symm, b0, h1, h2⟩
/-- a block is given up: what it holds stays -/
theorem frz_world (id : Nat) (hl : (bAt h id).isSome = true) {w : Wd} {ch : AH} (r : RH w h ch) : ∃ w', FzOk h id w w' h.length ∧ RH w' (SH.frz id h) ch ∧ Fr k w h ch w' (SH.frz id h) ch := by
  obtain ⟨b, hb⟩ := Option.isSome_iff_exists.1 hl
  have hbi := bAt_eq hb
  have hlen : (SH.frz id h).length = h.length := by simp [SH.frz]
  -- the world behind
  obtain ⟨w', f, hfr, hnf⟩ : ∃ w', FzOk h id w w' h.length ∧ (∀ i row, w'.fro i = some row → w.fro i = some row ∨ (w.ρ id = some i ∧ ∃ ro, ch.blk i = some (.row row ro))) ∧ True := by
    cases hc : w.ρ id with
    | none =>
      obtain ⟨esz, rfl⟩ := r.vir id b hbi hc
      refine ⟨w, ⟨rfl, rfl, fun _ _ h => h, fun esz els c _ h2 => ?_, fun cs c ps h1 => ?_, fun b h1 h2 => r.vir id b (bAt_eq h1) h2⟩, fun i row h => .inl h, trivial⟩
      · rw [hc] at h2; cases h2
      · rw [hb] at h1; cases h1
    | some c =>
      obtain ⟨cb, h1, h2⟩ := r.blk id b c hbi hc
      have hfc := r.nf id b c hbi hc
      cases h2 with
      | @obj cs ccs q1 q2 =>
        have hmono : ∀ i row, w.fro i = some row → up w.fro c (some ccs) i = some row := fun i row h => by rw [up_ne _ _ (fun e => by subst e; rw [hfc] at h; cases h)]; exact h
        refine ⟨⟨w.ρ, up w.fro c (some ccs), w.rl⟩, ⟨rfl, rfl, hmono, fun esz els c _ => ?_, fun cs' c' ps g1 g2 g3 => ?_, fun b h1 h2 => by rw [hc] at h2; cases h2⟩, fun i row h => ?_, trivial⟩
        · rename_i g; rw [hb] at g; cases g
        · rw [hb] at g1; cases g1
          rw [hc] at g3; cases g3
          refine ⟨ccs, up_same _ _ _, ?_⟩
          obtain rfl := pvs_eq g2
          refine ⟨by have := q2.1; simpa using this, fun j x y hx hy => ?_⟩
          have := q2.2 j (.p x) y (by simp [hx]) hy
          cases this with | p h => exact h.mono hmono
        · by_cases hi : i = c
          · subst hi; rw [show (⟨w.ρ, up w.fro i (some ccs), w.rl⟩ : Wd).fro i = some ccs from up_same _ _ _] at h; cases h; exact .inr ⟨rfl, false, h1⟩
          · exact .inl (by rw [show (⟨w.ρ, up w.fro c (some ccs), w.rl⟩ : Wd).fro i = w.fro i from up_ne _ _ hi] at h; exact h)
      | @arr esz els ccs q1 q2 q3 =>
        have hmono : ∀ i row, w.fro i = some row → up w.fro c (some ccs) i = some row := fun i row h => by rw [up_ne _ _ (fun e => by subst e; rw [hfc] at h; cases h)]; exact h
        refine ⟨⟨w.ρ, up w.fro c (some ccs), w.rl⟩, ⟨rfl, rfl, hmono, fun esz els c' g g' => ?_, fun cs' c' ps g1 g2 g3 => ?_, fun b h1 h2 => by rw [hc] at h2; cases h2⟩, fun i row h => ?_, trivial⟩
        · rw [hb] at g; cases g
          rw [hc] at g'; cases g'
          exact ⟨ccs, up_same _ _ _, q3.mono hmono⟩
        · rw [hb] at g1; cases g1
        · by_cases hi : i = c
          · subst hi; rw [show (⟨w.ρ, up w.fro i (some ccs), w.rl⟩ : Wd).fro i = some ccs from up_same _ _ _] at h; cases h; exact .inr ⟨rfl, false, h1⟩
          · exact .inl (by rw [show (⟨w.ρ, up w.fro c (some ccs), w.rl⟩ : Wd).fro i = w.fro i from up_ne _ _ hi] at h; exact h)
      | map q =>
        refine ⟨w, ⟨rfl, rfl, fun _ _ h => h, fun esz els c h1 => ?_, fun cs c ps h1 => ?_, fun b h1 h2 => r.vir id b (bAt_eq h1) h2⟩, fun i row h => .inl h, trivial⟩
        · rw [hb] at h1; cases h1
        · rw [hb] at h1; cases h1
  refine ⟨w', f, ⟨?_, ?_, ?_, ?_, ?_, ?_⟩, ⟨Nat.le_refl _, f.fro, fun _ _ => by rw [f.rl], fun _ _ _ => rfl, fun i _ h1 => ⟨by rw [hlen]; exact h1, by rw [f.ρ]⟩, ?_, ?_⟩⟩
  · intro i j bi bj c hi hj hci hcj
    obtain ⟨_, x, a1, _⟩ := frz_get hi
    obtain ⟨_, y, b1, _⟩ := frz_get hj
    rw [f.ρ] at hci hcj
    exact r.inj i j x y c a1 b1 hci hcj
  · intro i c hi hc
    rw [f.ρ] at hc; rw [hlen] at hi
    exact r.lt i c hi hc
  · intro i b' c hi hc
    obtain ⟨hne, x, a1, _⟩ := frz_get hi
    rw [f.ρ] at hc
    cases hf : w'.fro c with
    | none => rfl
    | some row =>
      rcases hfr c row hf with h0 | ⟨h0, _⟩
      · rw [r.nf i x c a1 hc] at h0; cases h0
      · exact (hne (r.inj i id x b c a1 hbi hc h0)).elim
  · intro i row hf
    rcases hfr i row hf with h0 | ⟨h0, h1⟩
    · exact r.fro i row h0
    · exact ⟨r.lv hbi h0, h1⟩
  · intro i b' c hi hc
    obtain ⟨hne, x, a1, rfl⟩ := frz_get hi
    rw [f.ρ] at hc
    obtain ⟨cb, h3, h4⟩ := r.blk i x c a1 hc
    exact ⟨cb, h3, by rw [hlen]; exact h4.frz f⟩
  · intro i b' hi hc
    obtain ⟨hne, x, a1, rfl⟩ := frz_get hi
    rw [f.ρ] at hc
    obtain ⟨esz, rfl⟩ := r.vir i x a1 hc
    exact ⟨esz, rfl⟩
  · intro i b' c hi hc
    obtain ⟨hne, x, a1, _⟩ := frz_get hi
    rw [f.ρ] at hc
    exact .inl ⟨i, x, a1, hc⟩
  · intro i row hf
    rcases hfr i row hf with h0 | ⟨h0, _⟩
    · exact .inl h0
    · exact .inr (.inr ⟨id, b, hbi, h0⟩)
theorem frz_len (id : Nat) : (SH.frz id h).length = h.length := by simp [SH.frz]
theorem Wk.frz (id : Nat) (hl : (bAt h id).isSome = true) : Wk k e h (e.frz h id) (SH.frz id h) := fun w ce ch r he => by
  obtain ⟨w', f, h1, h2⟩ := frz_world (k := k) id hl r
  exact ⟨w', h1, by rw [frz_len]; exact he.frz f, h2⟩
/-! ### not there yet -/
def nilS (s : Nat) (v : SV) : SE → SE
  | [] => []
  | (t, u) :: r => if t = s then (t, v) :: r else (t, u) :: nilS s v r
theorem nilS_get {s : Nat} {v : SV} (t : Nat) : ∀ (e : SE), eg (nilS s v e) t = eg e t ∨ (t = s ∧ eg (nilS s v e) t = v)
  | [] => .inl rfl
  | (m, u) :: r => by
    simp only [nilS]
    split
    · rename_i hm
      subst hm
      simp only [eg]
      split
      · rename_i h; exact .inr ⟨h.symm, rfl⟩
      · exact .inl rfl
    · simp only [eg]
      split
      · exact .inl rfl
      · exact nilS_get t r
/-- nil in a slot is a list without elements -/
theorem Wk.nil (s esz : Nat) (hs : eg e s = .nils) : Wk k e h (nilS s (.sl esz h.length 0 0 none) e) (h ++ [some (.arr esz [])]) := fun w ce ch r he => by
  obtain ⟨r1, r2, r3⟩ := r.virt (k := k) esz
  refine ⟨_, r1, fun t => ?_, r3⟩
  have h0 := (he t).mono r2 (Nat.le_succ _)
  rw [List.length_append]
  rcases nilS_get (v := .sl esz h.length 0 0 none) t e with h1 | ⟨h1, h2⟩
  · rw [h1]; exact h0
  · rw [h2]
    subst h1
    rw [hs] at h0
    generalize eget ce t = z at h0
    cases h0 with | p h0 => cases h0 with | nils => exact .slv (Nat.lt_succ_self _) (up_same _ _ _) (by simp)
/-- nil in a cell -/
theorem Wk.nilc (id off esz : Nat) {cs : List SV} (hb : bAt h id = some (.obj cs)) (hs : cs[off]? = some .nils) : Wk k e h e (h.set id (some (.obj (cs.set off (.sl esz h.length 0 0 none)))) ++ [some (.arr esz [])]) := fun w ce ch r he => by
  obtain ⟨r1, r2, r3⟩ := r.virt (k := k) esz
  have hbi := bAt_eq hb
  have hil := live_lt hbi
  cases hc : w.ρ id with
  | none => obtain ⟨_, h1⟩ := r.vir id _ hbi hc; cases h1
  | some c =>
    obtain ⟨cb, h1, h2⟩ := r.blk id _ c hbi hc
    cases h2 with
    | @obj _ ccs q1 q2 =>
      have hbi' : (h ++ [some (B2.arr esz [])])[id]? = some (some (.obj cs)) := by rw [List.getElem?_append_left hil]; exact hbi
      have hc' : (w.mv h.length none w.rl).ρ id = some c := by rw [r2.ρ id hil]; exact hc
      have hrb : RB (w.mv h.length none w.rl) (h ++ [some (B2.arr esz [])]).length c (.obj (cs.set off (.sl esz h.length 0 0 none))) (.row ccs false) := by
        rw [List.length_append]
        refine .obj q1 ⟨by simpa using q2.1, fun j x y hx hy => ?_⟩
        rw [List.getElem?_set] at hx
        split at hx
        · rename_i he
          subst he
          have := q2.2 off .nils y hs hy
          split at hx
          · cases hx
            cases this with | p this => cases this with | nils => exact .slv (Nat.lt_succ_self _) (up_same _ _ _) (by simp)
          · cases hx
        · exact (q2.2 j x y hx hy).mono r2 (Nat.le_succ _)
      obtain ⟨s1, s2⟩ := r1.set (k := k) hbi' hc' hrb
      have e1 : (h ++ [some (B2.arr esz [])]).set id (some (.obj (cs.set off (.sl esz h.length 0 0 none)))) = h.set id (some (.obj (cs.set off (.sl esz h.length 0 0 none)))) ++ [some (.arr esz [])] := by
        rw [List.set_append_left _ _ hil]
      have e2 : ch.set c (some (.row ccs false)) = ch := by
        cases ch with | mk nx bl =>
        simp only [AH.set]
        congr 1
        funext j
        split
        · rename_i hj; subst hj; exact h1.symm
        · rfl
      rw [e1, e2] at s1 s2
      refine ⟨_, s1, ?_, r3.trans s2⟩
      have := he.mono r2 (Nat.le_succ _)
      simpa using this
end
end Go.Proofs.Ytpgoemmjhnnmoaa.Ab
