/- The second machine: memory that is known piece by piece (a list of blocks), lists that stay as values, and what both mean in the first machine. -/
import Derived.Test.YtpgoemmjhnnmoaaAbLogic
namespace Go.Proofs.Ytpgoemmjhnnmoaa.Ab
open Go
set_option linter.unusedVariables false

/-- what can lie in a row for good: numbers, texts, nil's, lists that stay (elements, each of so many cells), pointers into cells that stay -/
inductive PV where
  | b (x : Bool)
  | i (k : IntKind) (n : Int)
  | s (x : List UInt8)
  | nilp | nils | nilm | nilf
  | fz (esz : Nat) (els : List (List PV))
  | fp (cs : List PV) (t : Nat)
  deriving Inhabited
/-- values: of the above, or with numbers of blocks -/
inductive SV where
  | p (v : PV)
  | ptr (id off : Nat)
  | ep (esz id j t : Nat)
  | sl (esz id off len : Nat) (cap : Option Nat)
  | so (esz id off len : Nat)
  | mp (id : Nat)
  | fn (f : Nat) (first cap : List SV)
  | agg (cs : List SV)
  | tup (vs : List SV)
  | alt (P : List Bool) (v : SV)
  | un
  deriving Inhabited
abbrev SV.b (x : Bool) : SV := .p (.b x)
abbrev SV.i (k : IntKind) (n : Int) : SV := .p (.i k n)
abbrev SV.s (x : List UInt8) : SV := .p (.s x)
abbrev SV.nilp : SV := .p .nilp
abbrev SV.nils : SV := .p .nils
abbrev SV.nilm : SV := .p .nilm
abbrev SV.nilf : SV := .p .nilf
abbrev SV.fz (esz : Nat) (els : List (List PV)) : SV := .p (.fz esz els)
abbrev SV.fp (cs : List PV) (t : Nat) : SV := .p (.fp cs t)
def SV.isUn : SV → Bool
  | .un => true
  | .alt _ _ => true
  | _ => false

inductive B2 where
  | obj (cs : List SV)
  | arr (esz : Nat) (els : List (List PV))
  | map (es : List (SV × SV))
  deriving Inhabited
abbrev SH := List (Option B2)

/-- which block is which; rows that stay; how long rows are -/
structure Wd where
  ρ : Nat → Option Nat
  fro : Nat → Option (List AV)
  rl : Nat → Nat

def P2 {α β : Type} (R : α → β → Prop) (xs : List α) (ys : List β) : Prop := xs.length = ys.length ∧ ∀ (j : Nat) x y, xs[j]? = some x → ys[j]? = some y → R x y
abbrev Fro := Nat → Option (List AV)
inductive RP (fro : Fro) : PV → AV → Prop
  | b (x) : RP fro (.b x) (.b x)
  | i (k n) : RP fro (.i k n) (.i k n)
  | s (x) : RP fro (.s x) (.s x)
  | nilp : RP fro .nilp .nilp
  | nils : RP fro .nils .nils
  | nilm : RP fro .nilm .nilm
  | nilf : RP fro .nilf .nilf
  | fz0 (esz) : RP fro (.fz esz []) .nils
  | fz1 (esz) : RP fro (.fz esz []) .es
  | fz {esz els id off len cap lo row} (hf : fro id = some row) (he : 0 < esz) (hl : els.length = len) (hc : len ≤ cap) (hlo : lo = 0 ∨ lo = esz) (hr : off + len * esz ≤ row.length)
      (hz : ∀ (j : Nat) el, els[j]? = some el → el.length = esz) (hv : ∀ (j : Nat) el (t : Nat) c a, els[j]? = some el → el[t]? = some c → row[off + j * esz + t]? = some a → RP fro c a) : RP fro (.fz esz els) (.sl id off len cap lo)
  | fp {cs t id o row} (hf : fro id = some row) (hr : o + cs.length ≤ row.length) (hv : ∀ (k : Nat) c a, cs[k]? = some c → row[o + k]? = some a → RP fro c a) : RP fro (.fp cs t) (.ptr id (o + t))
inductive RS (w : Wd) (n : Nat) : SV → AV → Prop
  | p {v a} (h : RP w.fro v a) : RS w n (.p v) a
  | ptr {id off c} (hi : id < n) (h : w.ρ id = some c) : RS w n (.ptr id off) (.ptr c off)
  | ep {esz id j t c} (hi : id < n) (h : w.ρ id = some c) : RS w n (.ep esz id j t) (.ptr c (j * esz + t))
  | sl {esz id off len cap c ccap lo} (hi : id < n) (h : w.ρ id = some c) (he : 0 < esz) (hc : ∀ k, cap = some k → len ≤ k ∧ k ≤ ccap) (hl : len ≤ ccap) (hlo : lo = 0 ∨ lo = esz) (hr : off * esz + ccap * esz ≤ w.rl c) :
      RS w n (.sl esz id off len cap) (.sl c (off * esz) len ccap lo)
  | slv {esz id off cap} (hi : id < n) (h : w.ρ id = none) (hc : ∀ k, cap = some k → k = 0) : RS w n (.sl esz id off 0 cap) .nils
  | so {esz id off len c ccap} (hi : id < n) (h : w.ρ id = some c) (hl : len ≤ ccap) : RS w n (.so esz id off len) (.sl c off len ccap 0)
  | mp {id c} (hi : id < n) (h : w.ρ id = some c) : RS w n (.mp id) (.mp c)
  | fn {f first cap cf cc} (h1 : first.length = cf.length) (h2 : ∀ (j : Nat) s q, first[j]? = some s → cf[j]? = some q → RS w n s (.ptr q.1 q.2))
      (h3 : cap.length = cc.length) (h4 : ∀ (j : Nat) s q, cap[j]? = some s → cc[j]? = some q → RS w n s (.ptr q.1 q.2)) : RS w n (.fn f first cap) (.fn f cf cc)
  | agg {cs ccs} (h1 : cs.length = ccs.length) (h2 : ∀ (j : Nat) s a, cs[j]? = some s → ccs[j]? = some a → RS w n s a) : RS w n (.agg cs) (.agg ccs)
  | tup {cs ccs} (h1 : cs.length = ccs.length) (h2 : ∀ (j : Nat) s a, cs[j]? = some s → ccs[j]? = some a → RS w n s a) : RS w n (.tup cs) (.tup ccs)
  | altT {P v a} (hp : P.all id = true) (h : RS w n v a) : RS w n (.alt P v) a
  | altF {P v} (hp : P.all id = false) : RS w n (.alt P v) (.tup [])
  | un {a} : RS w n .un a

/-- a row's cells, element by element -/
def ElsR (fro : Fro) (esz : Nat) (els : List (List PV)) (row : List AV) (off : Nat) : Prop :=
  off + els.length * esz ≤ row.length ∧ (∀ (j : Nat) el, els[j]? = some el → el.length = esz) ∧ ∀ (j : Nat) el (t : Nat) c a, els[j]? = some el → el[t]? = some c → row[off + j * esz + t]? = some a → RP fro c a
inductive RB (w : Wd) (n : Nat) (c : Nat) : B2 → Blk → Prop
  | obj {cs ccs} (hl : ccs.length = w.rl c) (h : P2 (RS w n) cs ccs) : RB w n c (.obj cs) (.row ccs false)
  | arr {esz els ccs} (hl : ccs.length = w.rl c) (he : 0 < esz) (h : ElsR w.fro esz els ccs 0) : RB w n c (.arr esz els) (.row ccs false)
  | map {es ces cl} (h : P2 (fun x y => RS w n x.1 y.1 ∧ RS w n x.2 y.2.1) es ces) : RB w n c (.map es) (.map ces cl)
structure RH (w : Wd) (h : SH) (ch : AH) : Prop where
  inj : ∀ (i j : Nat) b b' c, h[i]? = some (some b) → h[j]? = some (some b') → w.ρ i = some c → w.ρ j = some c → i = j
  lt : ∀ i c, i < h.length → w.ρ i = some c → c < ch.next
  nf : ∀ (i : Nat) b c, h[i]? = some (some b) → w.ρ i = some c → w.fro c = none
  fro : ∀ id row, w.fro id = some row → id < ch.next ∧ ∃ ro, ch.blk id = some (.row row ro)
  blk : ∀ (i : Nat) b c, h[i]? = some (some b) → w.ρ i = some c → ∃ cb, ch.blk c = some cb ∧ RB w h.length c b cb
  vir : ∀ (i : Nat) b, h[i]? = some (some b) → w.ρ i = none → ∃ esz, b = .arr esz []
/-- what stays: the rest of the memory, and the first blocks where they are -/
structure Fr (k : Nat) (w : Wd) (h : SH) (ch : AH) (w' : Wd) (h' : SH) (ch' : AH) : Prop where
  nx : ch.next ≤ ch'.next
  fro : ∀ id row, w.fro id = some row → w'.fro id = some row
  rl : ∀ c, c < ch.next → w'.rl c = w.rl c
  same : ∀ c, c < ch.next → (∀ (i : Nat) b, h[i]? = some (some b) → w.ρ i ≠ some c) → ch'.blk c = ch.blk c
  pin : ∀ i, i < k → i < h.length → i < h'.length ∧ w'.ρ i = w.ρ i
  src : ∀ (i : Nat) b c, h'[i]? = some (some b) → w'.ρ i = some c → (∃ (j : Nat) (b' : B2), h[j]? = some (some b') ∧ w.ρ j = some c) ∨ ch.next ≤ c
  frz : ∀ id row, w'.fro id = some row → w.fro id = some row ∨ ch.next ≤ id ∨ ∃ (j : Nat) (b' : B2), h[j]? = some (some b') ∧ w.ρ j = some id
abbrev SE := List (Nat × SV)
def eg : SE → Nat → SV
  | [], _ => .un
  | (m, v) :: r, n => if m = n then v else eg r n
def epu (e : SE) : Option Nat → SV → SE
  | none, _ => e
  | some d, v => (d, v) :: e
def RE (w : Wd) (n : Nat) (e : SE) (ce : Env) : Prop := ∀ s, RS w n (eg e s) (eget ce s)

/-! ### lists -/
section
variable {α β γ : Type} {R S : α → β → Prop}
theorem P2.mono {xs : List α} {ys : List β} (h : P2 R xs ys) (hi : ∀ x y, R x y → S x y) : P2 S xs ys := ⟨h.1, fun j x y hx hy => hi _ _ (h.2 j x y hx hy)⟩
theorem P2.nil : P2 R [] [] := ⟨rfl, fun j x y h => by simp at h⟩
theorem P2.get {xs : List α} {ys : List β} (h : P2 R xs ys) {j : Nat} {x : α} (hx : xs[j]? = some x) : ∃ y, ys[j]? = some y ∧ R x y := by
  have : j < ys.length := by rw [← h.1]; exact (List.getElem?_eq_some_iff.1 hx).1
  exact ⟨ys[j], List.getElem?_eq_getElem this, h.2 j x _ hx (List.getElem?_eq_getElem this)⟩
theorem P2.cons {x : α} {y : β} {xs : List α} {ys : List β} (h : R x y) (h' : P2 R xs ys) : P2 R (x :: xs) (y :: ys) := by
  refine ⟨by simp [h'.1], fun j a b ha hb => ?_⟩
  cases j with
  | zero => simp at ha hb; subst ha; subst hb; exact h
  | succ j => simp at ha hb; exact h'.2 j a b ha hb
theorem P2.append {xs xs' : List α} {ys ys' : List β} (h : P2 R xs ys) (h' : P2 R xs' ys') : P2 R (xs ++ xs') (ys ++ ys') := by
  refine ⟨by simp [h.1, h'.1], fun j a b ha hb => ?_⟩
  by_cases hj : j < xs.length
  · rw [List.getElem?_append_left hj] at ha
    rw [List.getElem?_append_left (by rw [← h.1]; exact hj)] at hb
    exact h.2 j a b ha hb
  · rw [List.getElem?_append_right (by omega)] at ha
    rw [List.getElem?_append_right (by rw [← h.1]; omega), ← h.1] at hb
    exact h'.2 _ a b ha hb
theorem P2.take {xs : List α} {ys : List β} (h : P2 R xs ys) (n : Nat) : P2 R (xs.take n) (ys.take n) := by
  refine ⟨by simp [h.1], fun j a b ha hb => ?_⟩
  rw [List.getElem?_take] at ha hb
  split at ha
  · rename_i hj; rw [if_pos hj] at hb; exact h.2 j a b ha hb
  · cases ha
theorem P2.drop {xs : List α} {ys : List β} (h : P2 R xs ys) (n : Nat) : P2 R (xs.drop n) (ys.drop n) := by
  refine ⟨by simp [h.1], fun j a b ha hb => ?_⟩
  rw [List.getElem?_drop] at ha hb
  exact h.2 _ a b ha hb
theorem P2.set {xs : List α} {ys : List β} (h : P2 R xs ys) (n : Nat) {x : α} {y : β} (hxy : R x y) : P2 R (xs.set n x) (ys.set n y) := by
  refine ⟨by simp [h.1], fun j a b ha hb => ?_⟩
  rw [List.getElem?_set] at ha hb
  split at ha
  · rename_i hj
    rw [if_pos hj] at hb
    split at ha
    · cases ha
      split at hb
      · cases hb; exact hxy
      · cases hb
    · cases ha
  · rename_i hj; rw [if_neg hj] at hb; exact h.2 j a b ha hb
theorem P2.map {xs : List γ} {ys : List β} {f : γ → α} (h : P2 (fun x y => R (f x) y) xs ys) : P2 R (xs.map f) ys := by
  refine ⟨by simp [h.1], fun j a b ha hb => ?_⟩
  rw [List.getElem?_map] at ha
  cases hx : xs[j]? with
  | none => simp [hx] at ha
  | some x => simp [hx] at ha; subst ha; exact h.2 j x b hx hb
theorem P2.map_right {δ : Type} {xs : List α} {ys : List δ} {f : δ → β} (h : P2 (fun x y => R x (f y)) xs ys) : P2 R xs (ys.map f) := by
  refine ⟨by simp [h.1], fun j a b ha hb => ?_⟩
  rw [List.getElem?_map] at hb
  cases hy : ys[j]? with
  | none => simp [hy] at hb
  | some y => simp [hy] at hb; subst hb; exact h.2 j a y ha hy
theorem P2.eraseIdx {xs : List α} {ys : List β} (h : P2 R xs ys) (n : Nat) : P2 R (xs.eraseIdx n) (ys.eraseIdx n) := by
  rw [List.eraseIdx_eq_take_drop_succ, List.eraseIdx_eq_take_drop_succ]
  exact (h.take n).append (h.drop (n + 1))
end

/-! ### the relation stays -/
theorem RP.mono {fro fro' : Fro} (hf : ∀ id row, fro id = some row → fro' id = some row) {v : PV} {a : AV} (h : RP fro v a) : RP fro' v a := by
  induction h with
  | b x => exact .b x
  | i k n => exact .i k n
  | s x => exact .s x
  | nilp => exact .nilp
  | nils => exact .nils
  | nilm => exact .nilm
  | nilf => exact .nilf
  | fz0 e => exact .fz0 e
  | fz1 e => exact .fz1 e
  | fz h1 he hl hc hlo hr hz hv ih => exact .fz (hf _ _ h1) he hl hc hlo hr hz ih
  | fp h1 hr hv ih => exact .fp (hf _ _ h1) hr ih
theorem ElsR.mono {fro fro' : Fro} (hf : ∀ id row, fro id = some row → fro' id = some row) {esz : Nat} {els : List (List PV)} {row : List AV} {off : Nat} (h : ElsR fro esz els row off) : ElsR fro' esz els row off :=
  ⟨h.1, h.2.1, fun j el t c a h1 h2 h3 => (h.2.2 j el t c a h1 h2 h3).mono hf⟩
/-- world 'w'' says as much as 'w' on ids below 'n' -/
structure Le (n : Nat) (w w' : Wd) : Prop where
  ρ : ∀ i, i < n → w'.ρ i = w.ρ i
  fro : ∀ id row, w.fro id = some row → w'.fro id = some row
  rl : ∀ i c, i < n → w.ρ i = some c → w'.rl c = w.rl c
theorem Le.refl (n : Nat) (w : Wd) : Le n w w := ⟨fun _ _ => rfl, fun _ _ h => h, fun _ _ _ _ => rfl⟩
theorem RS.mono {w w' : Wd} {n n' : Nat} (hl : Le n w w') (hn : n ≤ n') {v : SV} {a : AV} (h : RS w n v a) : RS w' n' v a := by
  induction h with
  | p h => exact .p (h.mono hl.fro)
  | ptr hi h => exact .ptr (Nat.lt_of_lt_of_le hi hn) (by rw [hl.ρ _ hi]; exact h)
  | ep hi h => exact .ep (Nat.lt_of_lt_of_le hi hn) (by rw [hl.ρ _ hi]; exact h)
  | sl hi h he hc hlen hlo hr => exact .sl (Nat.lt_of_lt_of_le hi hn) (by rw [hl.ρ _ hi]; exact h) he hc hlen hlo (by rw [hl.rl _ _ hi h]; exact hr)
  | slv hi h hc => exact .slv (Nat.lt_of_lt_of_le hi hn) (by rw [hl.ρ _ hi]; exact h) hc
  | so hi h hs => exact .so (Nat.lt_of_lt_of_le hi hn) (by rw [hl.ρ _ hi]; exact h) hs
  | mp hi h => exact .mp (Nat.lt_of_lt_of_le hi hn) (by rw [hl.ρ _ hi]; exact h)
  | fn h1 h2 h3 h4 i2 i4 => exact .fn h1 i2 h3 i4
  | agg h1 h2 ih => exact .agg h1 ih
  | tup h1 h2 ih => exact .tup h1 ih
  | altT hp h ih => exact .altT hp ih
  | altF hp => exact .altF hp
  | un => exact .un
theorem RE.mono {w w' : Wd} {n n' : Nat} (hl : Le n w w') (hn : n ≤ n') {e : SE} {ce : Env} (h : RE w n e ce) : RE w' n' e ce := fun s => (h s).mono hl hn
theorem RB.mono {w w' : Wd} {n n' : Nat} (hl : Le n w w') (hn : n ≤ n') {c : Nat} (hc : w'.rl c = w.rl c) {b : B2} {cb : Blk} (h : RB w n c b cb) : RB w' n' c b cb := by
  cases h with
  | obj h1 h2 => exact .obj (by rw [hc]; exact h1) (h2.mono fun _ _ h => h.mono hl hn)
  | arr h1 he h2 => exact .arr (by rw [hc]; exact h1) he (h2.mono hl.fro)
  | map h => exact .map (h.mono fun _ _ h => ⟨h.1.mono hl hn, h.2.mono hl hn⟩)
theorem RE.put {w : Wd} {n : Nat} {e : SE} {ce : Env} (h : RE w n e ce) {v : SV} {a : AV} (hv : RS w n v a) (d : Option Nat) : RE w n (epu e d v) (eput ce d a) := by
  intro s
  cases d with
  | none => exact h s
  | some d =>
    simp only [epu, eput, eg, eget]
    split
    · exact hv
    · exact h s
theorem RP.ne_un {fro : Fro} {v : PV} {a : AV} (h : RP fro v a) : a.isUn = false := by cases h <;> rfl
theorem RS.ne_un {w : Wd} {n : Nat} {v : SV} {a : AV} (h : RS w n v a) (hv : v.isUn = false) : a.isUn = false := by
  cases h with
  | p h => exact h.ne_un
  | un => cases hv
  | altT => cases hv
  | _ => rfl
/-- the cells of what can be stored -/
def SV.cl : SV → Option (List SV)
  | .agg cs => some cs
  | .tup _ => none
  | .un => none
  | .alt _ _ => none
  | v => some [v]
theorem P2.one {α β : Type} {R : α → β → Prop} {x : α} {y : β} (h : R x y) : P2 R [x] [y] := P2.cons h P2.nil
theorem RS.cl {w : Wd} {n : Nat} {v : SV} {a : AV} {cs : List SV} (h : RS w n v a) (hc : v.cl = some cs) : ∃ ccs, a.cl = some ccs ∧ P2 (RS w n) cs ccs := by
  cases h with
  | p h =>
    cases hc
    refine ⟨[a], ?_, .one (.p h)⟩
    cases h <;> rfl
  | agg h1 h2 => cases hc; exact ⟨_, rfl, h1, h2⟩
  | tup => cases hc
  | un => cases hc
  | altT => cases hc
  | altF => cases hc
  | ptr hi h => cases hc; exact ⟨_, rfl, .one (.ptr hi h)⟩
  | ep hi h => cases hc; exact ⟨_, rfl, .one (.ep hi h)⟩
  | sl hi h he hc' hlen hlo hr => cases hc; exact ⟨_, rfl, .one (.sl hi h he hc' hlen hlo hr)⟩
  | slv hi h hc' => cases hc; exact ⟨_, rfl, .one (.slv hi h hc')⟩
  | so hi h hs => cases hc; exact ⟨_, rfl, .one (.so hi h hs)⟩
  | mp hi h => cases hc; exact ⟨_, rfl, .one (.mp hi h)⟩
  | fn h1 h2 h3 h4 => cases hc; exact ⟨_, rfl, .one (.fn h1 h2 h3 h4)⟩
/-- scalars -/
def sc : SV → Option AV
  | .p (.b x) => some (.b x)
  | .p (.i k n) => some (.i k n)
  | .p (.s x) => some (.s x)
  | _ => none
def usc : AV → SV
  | .b x => .p (.b x)
  | .i k n => .p (.i k n)
  | .s x => .p (.s x)
  | _ => .un
theorem sc_eq {w : Wd} {n : Nat} {v : SV} {a c : AV} (h : RS w n v c) (hs : sc v = some a) : c = a := by
  unfold sc at hs
  split at hs <;> cases hs
  all_goals (cases h with | p h => cases h; rfl)
theorem usc_rs {w : Wd} {n : Nat} (a : AV) : RS w n (usc a) a := by
  unfold usc
  split
  · exact .p (.b _)
  · exact .p (.i _ _)
  · exact .p (.s _)
  · exact .un

/-! ### steps of the frame -/
theorem Fr.refl (k : Nat) (w : Wd) (h : SH) (ch : AH) : Fr k w h ch w h ch :=
  ⟨Nat.le_refl _, fun _ _ h => h, fun _ _ => rfl, fun _ _ _ => rfl, fun _ _ hi => ⟨hi, rfl⟩, fun i b c h1 h2 => .inl ⟨i, b, h1, h2⟩, fun _ _ h => .inl h⟩
theorem Fr.trans {k : Nat} {w w1 w2 : Wd} {h h1 h2 : SH} {ch ch1 ch2 : AH} (f : Fr k w h ch w1 h1 ch1) (g : Fr k w1 h1 ch1 w2 h2 ch2) : Fr k w h ch w2 h2 ch2 where
  nx := Nat.le_trans f.nx g.nx
  fro := fun id row h => g.fro _ _ (f.fro _ _ h)
  same := fun c hc hn => by
    have a := f.same c hc hn
    have b := g.same c (Nat.lt_of_lt_of_le hc f.nx) fun i b h1 h2 => by
      rcases f.src i b c h1 h2 with ⟨j, b', h3, h4⟩ | h3
      · exact hn j b' h3 h4
      · omega
    exact b.trans a
  rl := fun c hc => (g.rl c (Nat.lt_of_lt_of_le hc f.nx)).trans (f.rl c hc)
  pin := fun i hi hn => by
    have a := f.pin i hi hn
    have b := g.pin i hi a.1
    exact ⟨b.1, b.2.trans a.2⟩
  src := fun i b c h1 h2 => by
    rcases g.src i b c h1 h2 with ⟨j, b', h3, h4⟩ | h3
    · exact f.src j b' c h3 h4
    · exact .inr (Nat.le_trans f.nx h3)
  frz := fun id row h => by
    rcases g.frz id row h with h | h | ⟨j, b', h3, h4⟩
    · exact f.frz id row h
    · exact .inr (.inl (Nat.le_trans f.nx h))
    · rcases f.src j b' id h3 h4 with h5 | h5
      · exact .inr (.inr h5)
      · exact .inr (.inl h5)
end Go.Proofs.Ytpgoemmjhnnmoaa.Ab
