/- The second machine: memory piece by piece; its operations, its logic. -/
import Derived.Test.YtadbipeachcekaaMB
/- The second machine: memory that is known piece by piece (a list of blocks), lists that stay as values, and what both mean in the first machine. -/
namespace Go.Proofs.Ytadbipeachcekaa.Ab
open Go
set_option linter.unusedVariables false

/-- what can lie in a row for good: numbers, texts, nil's, lists that stay (elements, each of so many cells), pointers into cells that stay -/
inductive PV where
  | b (x : Bool)
  | i (k : IntKind) (n : Int)
  | s (x : List UInt8)
  | nilp | nils | nilm | nilf
  | fz (esz : Nat) (els : List (List PV))
  | fp (cs : List PV) (t : Nat)
  deriving Inhabited
/-- values: of the above, or with numbers of blocks -/
inductive SV where
  | p (v : PV)
  | ptr (id off : Nat)
  | ep (esz id j t : Nat)
  | sl (esz id off len : Nat) (cap : Option Nat)
  | so (esz id off len : Nat)
  | mp (id : Nat)
  | fn (f : Nat) (first cap : List SV)
  | agg (cs : List SV)
  | tup (vs : List SV)
  | alt (P : List Bool) (v : SV)
  | un
  deriving Inhabited
abbrev SV.b (x : Bool) : SV := .p (.b x)
abbrev SV.i (k : IntKind) (n : Int) : SV := .p (.i k n)
abbrev SV.s (x : List UInt8) : SV := .p (.s x)
abbrev SV.nilp : SV := .p .nilp
abbrev SV.nils : SV := .p .nils
abbrev SV.nilm : SV := .p .nilm
abbrev SV.nilf : SV := .p .nilf
abbrev SV.fz (esz : Nat) (els : List (List PV)) : SV := .p (.fz esz els)
abbrev SV.fp (cs : List PV) (t : Nat) : SV := .p (.fp cs t)
def SV.isUn : SV → Bool
  | .un => true
  | .alt _ _ => true
  | _ => false

inductive B2 where
  | obj (cs : List SV)
  | arr (esz : Nat) (els : List (List PV))
  | map (es : List (SV × SV))
  deriving Inhabited
abbrev SH := List (Option B2)

/-- which block is which; rows that stay; how long rows are -/
structure Wd where
  ρ : Nat → Option Nat
  fro : Nat → Option (List AV)
  rl : Nat → Nat

def P2 {α β : Type} (R : α → β → Prop) (xs : List α) (ys : List β) : Prop := xs.length = ys.length ∧ ∀ (j : Nat) x y, xs[j]? = some x → ys[j]? = some y → R x y
abbrev Fro := Nat → Option (List AV)
inductive RP (fro : Fro) : PV → AV → Prop
  | b (x) : RP fro (.b x) (.b x)
  | i (k n) : RP fro (.i k n) (.i k n)
  | s (x) : RP fro (.s x) (.s x)
  | nilp : RP fro .nilp .nilp
  | nils : RP fro .nils .nils
  | nilm : RP fro .nilm .nilm
  | nilf : RP fro .nilf .nilf
  | fz0 (esz) : RP fro (.fz esz []) .nils
  | fz1 (esz) : RP fro (.fz esz []) .es
  | fz {esz els id off len cap lo row} (hf : fro id = some row) (he : 0 < esz) (hl : els.length = len) (hc : len ≤ cap) (hlo : lo = 0 ∨ lo = esz) (hr : off + len * esz ≤ row.length)
      (hz : ∀ (j : Nat) el, els[j]? = some el → el.length = esz) (hv : ∀ (j : Nat) el (t : Nat) c a, els[j]? = some el → el[t]? = some c → row[off + j * esz + t]? = some a → RP fro c a) : RP fro (.fz esz els) (.sl id off len cap lo)
  | fp {cs t id o row} (hf : fro id = some row) (hr : o + cs.length ≤ row.length) (hv : ∀ (k : Nat) c a, cs[k]? = some c → row[o + k]? = some a → RP fro c a) : RP fro (.fp cs t) (.ptr id (o + t))
inductive RS (w : Wd) (n : Nat) : SV → AV → Prop
  | p {v a} (h : RP w.fro v a) : RS w n (.p v) a
  | ptr {id off c} (hi : id < n) (h : w.ρ id = some c) : RS w n (.ptr id off) (.ptr c off)
  | ep {esz id j t c} (hi : id < n) (h : w.ρ id = some c) : RS w n (.ep esz id j t) (.ptr c (j * esz + t))
  | sl {esz id off len cap c ccap lo} (hi : id < n) (h : w.ρ id = some c) (he : 0 < esz) (hc : ∀ k, cap = some k → len ≤ k ∧ k ≤ ccap) (hl : len ≤ ccap) (hlo : lo = 0 ∨ lo = esz) (hr : off * esz + ccap * esz ≤ w.rl c) :
      RS w n (.sl esz id off len cap) (.sl c (off * esz) len ccap lo)
  | slv {esz id off cap} (hi : id < n) (h : w.ρ id = none) (hc : ∀ k, cap = some k → k = 0) : RS w n (.sl esz id off 0 cap) .nils
  | so {esz id off len c ccap lo} (hi : id < n) (h : w.ρ id = some c) (hl : len ≤ ccap) : RS w n (.so esz id off len) (.sl c off len ccap lo)
  | mp {id c} (hi : id < n) (h : w.ρ id = some c) : RS w n (.mp id) (.mp c)
  | fn {f first cap cf cc} (h1 : first.length = cf.length) (h2 : ∀ (j : Nat) s q, first[j]? = some s → cf[j]? = some q → RS w n s (.ptr q.1 q.2))
      (h3 : cap.length = cc.length) (h4 : ∀ (j : Nat) s q, cap[j]? = some s → cc[j]? = some q → RS w n s (.ptr q.1 q.2)) : RS w n (.fn f first cap) (.fn f cf cc)
  | agg {cs ccs} (h1 : cs.length = ccs.length) (h2 : ∀ (j : Nat) s a, cs[j]? = some s → ccs[j]? = some a → RS w n s a) : RS w n (.agg cs) (.agg ccs)
  | tup {cs ccs} (h1 : cs.length = ccs.length) (h2 : ∀ (j : Nat) s a, cs[j]? = some s → ccs[j]? = some a → RS w n s a) : RS w n (.tup cs) (.tup ccs)
  | altT {P v a} (hp : P.all id = true) (h : RS w n v a) : RS w n (.alt P v) a
  | altF {P v} (hp : P.all id = false) : RS w n (.alt P v) (.tup [])
  | un {a} : RS w n .un a

/-- a row's cells, element by element -/
def ElsR (fro : Fro) (esz : Nat) (els : List (List PV)) (row : List AV) (off : Nat) : Prop :=
  off + els.length * esz ≤ row.length ∧ (∀ (j : Nat) el, els[j]? = some el → el.length = esz) ∧ ∀ (j : Nat) el (t : Nat) c a, els[j]? = some el → el[t]? = some c → row[off + j * esz + t]? = some a → RP fro c a
/-- the entries of a map: when each came -/
def Bo (ces : List (AV × AV × Nat)) (cl : Nat) : Prop := (ces.map fun x => x.2.2).Nodup ∧ ∀ x ∈ ces, x.2.2 < cl
theorem Bo.nil : Bo [] 0 := ⟨List.nodup_nil, fun x hx => by cases hx⟩
theorem Bo.snoc {ces : List (AV × AV × Nat)} {cl : Nat} (h : Bo ces cl) (k v : AV) : Bo (ces ++ [(k, v, cl)]) (cl + 1) := by
  refine ⟨?_, fun x hx => ?_⟩
  · rw [List.map_append]
    refine List.nodup_append.2 ⟨h.1, by simp, fun x hx y hy => ?_⟩
    obtain ⟨z, hz, rfl⟩ := List.mem_map.1 hx
    simp only [List.map_cons, List.map_nil, List.mem_singleton] at hy
    subst hy
    exact Nat.ne_of_lt (h.2 z hz)
  · rcases List.mem_append.1 hx with hx | hx
    · exact Nat.lt_succ_of_lt (h.2 x hx)
    · rw [List.mem_singleton.1 hx]; exact Nat.lt_succ_self _
theorem Bo.set {ces : List (AV × AV × Nat)} {cl : Nat} (h : Bo ces cl) {i : Nat} {k v k' v' : AV} {b : Nat} (hi : ces[i]? = some (k, v, b)) : Bo (ces.set i (k', v', b)) cl := by
  have hm : (ces.set i (k', v', b)).map (fun x => x.2.2) = ces.map fun x => x.2.2 := by
    rw [List.map_set]
    apply List.ext_getElem?
    intro j
    rw [List.getElem?_set]
    split
    · rename_i e; subst e
      rw [List.length_map, List.getElem?_map, hi]
      rw [if_pos (List.getElem?_eq_some_iff.1 hi).1]; rfl
    · rfl
  refine ⟨by rw [hm]; exact h.1, fun x hx => ?_⟩
  rcases List.mem_or_eq_of_mem_set hx with hx | rfl
  · exact h.2 x hx
  · exact h.2 (k, v, b) (List.mem_of_getElem? hi)
theorem Bo.erase {ces : List (AV × AV × Nat)} {cl : Nat} (h : Bo ces cl) (i : Nat) : Bo (ces.eraseIdx i) cl :=
  ⟨List.Sublist.nodup (List.Sublist.map _ (List.eraseIdx_sublist ..)) h.1, fun x hx => h.2 x (List.mem_of_mem_eraseIdx hx)⟩
theorem kfind_get {kk : KK} {k : AV} : ∀ {es : List (AV × AV × Nat)} {j i : Nat} {v : AV} {b : Nat}, kfind kk k es j = some (some (i, v, b)) → ∃ x, j ≤ i ∧ es[i - j]? = some (x, v, b)
  | [], j, i, v, b, h => by simp [kfind] at h
  | (x, v0, n) :: r, j, i, v, b, h => by
    simp only [kfind] at h
    split at h
    · cases h; exact ⟨x, Nat.le_refl _, by simp⟩
    · obtain ⟨y, h1, h2⟩ := kfind_get h
      refine ⟨y, by omega, ?_⟩
      rw [show i - j = (i - (j + 1)) + 1 by omega, List.getElem?_cons_succ]
      exact h2
    · cases h
inductive RB (w : Wd) (n : Nat) (c : Nat) : B2 → Blk → Prop
  | obj {cs ccs} (hl : ccs.length = w.rl c) (h : P2 (RS w n) cs ccs) : RB w n c (.obj cs) (.row ccs false)
  | arr {esz els ccs} (hl : ccs.length = w.rl c) (he : 0 < esz) (h : ElsR w.fro esz els ccs 0) : RB w n c (.arr esz els) (.row ccs false)
  | map {es ces cl} (h : P2 (fun x y => RS w n x.1 y.1 ∧ RS w n x.2 y.2.1) es ces) (hb : Bo ces cl) : RB w n c (.map es) (.map ces cl)
structure RH (w : Wd) (h : SH) (ch : AH) : Prop where
  inj : ∀ (i j : Nat) b b' c, h[i]? = some (some b) → h[j]? = some (some b') → w.ρ i = some c → w.ρ j = some c → i = j
  lt : ∀ i c, i < h.length → w.ρ i = some c → c < ch.next
  nf : ∀ (i : Nat) b c, h[i]? = some (some b) → w.ρ i = some c → w.fro c = none
  fro : ∀ id row, w.fro id = some row → id < ch.next ∧ ∃ ro, ch.blk id = some (.row row ro)
  blk : ∀ (i : Nat) b c, h[i]? = some (some b) → w.ρ i = some c → ∃ cb, ch.blk c = some cb ∧ RB w h.length c b cb
  vir : ∀ (i : Nat) b, h[i]? = some (some b) → w.ρ i = none → ∃ esz, b = .arr esz []
  wf : ∀ id, ch.next ≤ id → ch.blk id = none
/-- what stays: the rest of the memory, and the first blocks where they are -/
structure Fr (k : Nat) (w : Wd) (h : SH) (ch : AH) (w' : Wd) (h' : SH) (ch' : AH) : Prop where
  nx : ch.next ≤ ch'.next
  fro : ∀ id row, w.fro id = some row → w'.fro id = some row
  rl : ∀ c, c < ch.next → w'.rl c = w.rl c
  same : ∀ c, c < ch.next → (∀ (i : Nat) b, h[i]? = some (some b) → w.ρ i ≠ some c) → ch'.blk c = ch.blk c
  pin : ∀ i, i < k → i < h.length → i < h'.length ∧ w'.ρ i = w.ρ i
  src : ∀ (i : Nat) b c, h'[i]? = some (some b) → w'.ρ i = some c → (∃ (j : Nat) (b' : B2), h[j]? = some (some b') ∧ w.ρ j = some c) ∨ ch.next ≤ c
  frz : ∀ id row, w'.fro id = some row → w.fro id = some row ∨ ch.next ≤ id ∨ ∃ (j : Nat) (b' : B2), h[j]? = some (some b') ∧ w.ρ j = some id
abbrev SE := List (Nat × SV)
def eg : SE → Nat → SV
  | [], _ => .un
  | (m, v) :: r, n => if m = n then v else eg r n
def epu (e : SE) : Option Nat → SV → SE
  | none, _ => e
  | some d, v => (d, v) :: e
def RE (w : Wd) (n : Nat) (e : SE) (ce : Env) : Prop := ∀ s, RS w n (eg e s) (eget ce s)

/-! ### lists -/
section
variable {α β γ : Type} {R S : α → β → Prop}
theorem P2.mono {xs : List α} {ys : List β} (h : P2 R xs ys) (hi : ∀ x y, R x y → S x y) : P2 S xs ys := ⟨h.1, fun j x y hx hy => hi _ _ (h.2 j x y hx hy)⟩
theorem P2.nil : P2 R [] [] := ⟨rfl, fun j x y h => by simp at h⟩
theorem P2.get {xs : List α} {ys : List β} (h : P2 R xs ys) {j : Nat} {x : α} (hx : xs[j]? = some x) : ∃ y, ys[j]? = some y ∧ R x y := by
  have : j < ys.length := by rw [← h.1]; exact (List.getElem?_eq_some_iff.1 hx).1
  exact ⟨ys[j], List.getElem?_eq_getElem this, h.2 j x _ hx (List.getElem?_eq_getElem this)⟩
theorem P2.cons {x : α} {y : β} {xs : List α} {ys : List β} (h : R x y) (h' : P2 R xs ys) : P2 R (x :: xs) (y :: ys) := by
  refine ⟨by simp [h'.1], fun j a b ha hb => ?_⟩
  cases j with
  | zero => simp at ha hb; subst ha; subst hb; exact h
  | succ j => simp at ha hb; exact h'.2 j a b ha hb
theorem P2.append {xs xs' : List α} {ys ys' : List β} (h : P2 R xs ys) (h' : P2 R xs' ys') : P2 R (xs ++ xs') (ys ++ ys') := by
  refine ⟨by simp [h.1, h'.1], fun j a b ha hb => ?_⟩
  by_cases hj : j < xs.length
  · rw [List.getElem?_append_left hj] at ha
    rw [List.getElem?_append_left (by rw [← h.1]; exact hj)] at hb
    exact h.2 j a b ha hb
  · rw [List.getElem?_append_right (by omega)] at ha
    rw [List.getElem?_append_right (by rw [← h.1]; omega), ← h.1] at hb
    exact h'.2 _ a b ha hb
theorem P2.take {xs : List α} {ys : List β} (h : P2 R xs ys) (n : Nat) : P2 R (xs.take n) (ys.take n) := by
  refine ⟨by simp [h.1], fun j a b ha hb => ?_⟩
  rw [List.getElem?_take] at ha hb
  split at ha
  · rename_i hj; rw [if_pos hj] at hb; exact h.2 j a b ha hb
  · cases ha
theorem P2.drop {xs : List α} {ys : List β} (h : P2 R xs ys) (n : Nat) : P2 R (xs.drop n) (ys.drop n) := by
  refine ⟨by simp [h.1], fun j a b ha hb => ?_⟩
  rw [List.getElem?_drop] at ha hb
  exact h.2 _ a b ha hb
theorem P2.set {xs : List α} {ys : List β} (h : P2 R xs ys) (n : Nat) {x : α} {y : β} (hxy : R x y) : P2 R (xs.set n x) (ys.set n y) := by
  refine ⟨by simp [h.1], fun j a b ha hb => ?_⟩
  rw [List.getElem?_set] at ha hb
  split at ha
  · rename_i hj
    rw [if_pos hj] at hb
    split at ha
    · cases ha
      split at hb
      · cases hb; exact hxy
      · cases hb
    · cases ha
  · rename_i hj; rw [if_neg hj] at hb; exact h.2 j a b ha hb
theorem P2.map {xs : List γ} {ys : List β} {f : γ → α} (h : P2 (fun x y => R (f x) y) xs ys) : P2 R (xs.map f) ys := by
  refine ⟨by simp [h.1], fun j a b ha hb => ?_⟩
  rw [List.getElem?_map] at ha
  cases hx : xs[j]? with
  | none => simp [hx] at ha
  | some x => simp [hx] at ha; subst ha; exact h.2 j x b hx hb
theorem P2.map_right {δ : Type} {xs : List α} {ys : List δ} {f : δ → β} (h : P2 (fun x y => R x (f y)) xs ys) : P2 R xs (ys.map f) := by
  refine ⟨by simp [h.1], fun j a b ha hb => ?_⟩
  rw [List.getElem?_map] at hb
  cases hy : ys[j]? with
  | none => simp [hy] at hb
  | some y => simp [hy] at hb; subst hb; exact h.2 j a y ha hy
theorem P2.eraseIdx {xs : List α} {ys : List β} (h : P2 R xs ys) (n : Nat) : P2 R (xs.eraseIdx n) (ys.eraseIdx n) := by
  rw [List.eraseIdx_eq_take_drop_succ, List.eraseIdx_eq_take_drop_succ]
  exact (h.take n).append (h.drop (n + 1))
end

/-! ### the relation stays -/
theorem RP.mono {fro fro' : Fro} (hf : ∀ id row, fro id = some row → fro' id = some row) {v : PV} {a : AV} (h : RP fro v a) : RP fro' v a := by
  induction h with
  | b x => exact .b x
  | i k n => exact .i k n
  | s x => exact .s x
  | nilp => exact .nilp
  | nils => exact .nils
  | nilm => exact .nilm
  | nilf => exact .nilf
  | fz0 e => exact .fz0 e
  | fz1 e => exact .fz1 e
  | fz h1 he hl hc hlo hr hz hv ih => exact .fz (hf _ _ h1) he hl hc hlo hr hz ih
  | fp h1 hr hv ih => exact .fp (hf _ _ h1) hr ih
theorem ElsR.mono {fro fro' : Fro} (hf : ∀ id row, fro id = some row → fro' id = some row) {esz : Nat} {els : List (List PV)} {row : List AV} {off : Nat} (h : ElsR fro esz els row off) : ElsR fro' esz els row off :=
  ⟨h.1, h.2.1, fun j el t c a h1 h2 h3 => (h.2.2 j el t c a h1 h2 h3).mono hf⟩
/-- world 'w'' says as much as 'w' on ids below 'n' -/
structure Le (n : Nat) (w w' : Wd) : Prop where
  ρ : ∀ i, i < n → w'.ρ i = w.ρ i
  fro : ∀ id row, w.fro id = some row → w'.fro id = some row
  rl : ∀ i c, i < n → w.ρ i = some c → w'.rl c = w.rl c
theorem Le.refl (n : Nat) (w : Wd) : Le n w w := ⟨fun _ _ => rfl, fun _ _ h => h, fun _ _ _ _ => rfl⟩
theorem RS.mono {w w' : Wd} {n n' : Nat} (hl : Le n w w') (hn : n ≤ n') {v : SV} {a : AV} (h : RS w n v a) : RS w' n' v a := by
  induction h with
  | p h => exact .p (h.mono hl.fro)
  | ptr hi h => exact .ptr (Nat.lt_of_lt_of_le hi hn) (by rw [hl.ρ _ hi]; exact h)
  | ep hi h => exact .ep (Nat.lt_of_lt_of_le hi hn) (by rw [hl.ρ _ hi]; exact h)
  | sl hi h he hc hlen hlo hr => exact .sl (Nat.lt_of_lt_of_le hi hn) (by rw [hl.ρ _ hi]; exact h) he hc hlen hlo (by rw [hl.rl _ _ hi h]; exact hr)
  | slv hi h hc => exact .slv (Nat.lt_of_lt_of_le hi hn) (by rw [hl.ρ _ hi]; exact h) hc
  | so hi h hs => exact .so (Nat.lt_of_lt_of_le hi hn) (by rw [hl.ρ _ hi]; exact h) hs
  | mp hi h => exact .mp (Nat.lt_of_lt_of_le hi hn) (by rw [hl.ρ _ hi]; exact h)
  | fn h1 h2 h3 h4 i2 i4 => exact .fn h1 i2 h3 i4
  | agg h1 h2 ih => exact .agg h1 ih
  | tup h1 h2 ih => exact .tup h1 ih
  | altT hp h ih => exact .altT hp ih
  | altF hp => exact .altF hp
  | un => exact .un
theorem RE.mono {w w' : Wd} {n n' : Nat} (hl : Le n w w') (hn : n ≤ n') {e : SE} {ce : Env} (h : RE w n e ce) : RE w' n' e ce := fun s => (h s).mono hl hn
theorem RB.mono {w w' : Wd} {n n' : Nat} (hl : Le n w w') (hn : n ≤ n') {c : Nat} (hc : w'.rl c = w.rl c) {b : B2} {cb : Blk} (h : RB w n c b cb) : RB w' n' c b cb := by
  cases h with
  | obj h1 h2 => exact .obj (by rw [hc]; exact h1) (h2.mono fun _ _ h => h.mono hl hn)
  | arr h1 he h2 => exact .arr (by rw [hc]; exact h1) he (h2.mono hl.fro)
  | map h hb => exact .map (h.mono fun _ _ h => ⟨h.1.mono hl hn, h.2.mono hl hn⟩) hb
theorem RE.put {w : Wd} {n : Nat} {e : SE} {ce : Env} (h : RE w n e ce) {v : SV} {a : AV} (hv : RS w n v a) (d : Option Nat) : RE w n (epu e d v) (eput ce d a) := by
  intro s
  cases d with
  | none => exact h s
  | some d =>
    simp only [epu, eput, eg, eget]
    split
    · exact hv
    · exact h s
theorem RP.ne_un {fro : Fro} {v : PV} {a : AV} (h : RP fro v a) : a.isUn = false := by cases h <;> rfl
theorem RS.ne_un {w : Wd} {n : Nat} {v : SV} {a : AV} (h : RS w n v a) (hv : v.isUn = false) : a.isUn = false := by
  cases h with
  | p h => exact h.ne_un
  | un => cases hv
  | altT => cases hv
  | _ => rfl
/-- the cells of what can be stored -/
def SV.cl : SV → Option (List SV)
  | .agg cs => some cs
  | .tup _ => none
  | .un => none
  | .alt _ _ => none
  | v => some [v]
theorem P2.one {α β : Type} {R : α → β → Prop} {x : α} {y : β} (h : R x y) : P2 R [x] [y] := P2.cons h P2.nil
theorem RS.cl {w : Wd} {n : Nat} {v : SV} {a : AV} {cs : List SV} (h : RS w n v a) (hc : v.cl = some cs) : ∃ ccs, a.cl = some ccs ∧ P2 (RS w n) cs ccs := by
  cases h with
  | p h =>
    cases hc
    refine ⟨[a], ?_, .one (.p h)⟩
    cases h <;> rfl
  | agg h1 h2 => cases hc; exact ⟨_, rfl, h1, h2⟩
  | tup => cases hc
  | un => cases hc
  | altT => cases hc
  | altF => cases hc
  | ptr hi h => cases hc; exact ⟨_, rfl, .one (.ptr hi h)⟩
  | ep hi h => cases hc; exact ⟨_, rfl, .one (.ep hi h)⟩
  | sl hi h he hc' hlen hlo hr => cases hc; exact ⟨_, rfl, .one (.sl hi h he hc' hlen hlo hr)⟩
  | slv hi h hc' => cases hc; exact ⟨_, rfl, .one (.slv hi h hc')⟩
  | so hi h hs => cases hc; exact ⟨_, rfl, .one (.so hi h hs)⟩
  | mp hi h => cases hc; exact ⟨_, rfl, .one (.mp hi h)⟩
  | fn h1 h2 h3 h4 => cases hc; exact ⟨_, rfl, .one (.fn h1 h2 h3 h4)⟩
/-- scalars -/
def sc : SV → Option AV
  | .p (.b x) => some (.b x)
  | .p (.i k n) => some (.i k n)
  | .p (.s x) => some (.s x)
  | _ => none
def usc : AV → SV
  | .b x => .p (.b x)
  | .i k n => .p (.i k n)
  | .s x => .p (.s x)
  | _ => .un
theorem sc_eq {w : Wd} {n : Nat} {v : SV} {a c : AV} (h : RS w n v c) (hs : sc v = some a) : c = a := by
  unfold sc at hs
  split at hs <;> cases hs
  all_goals (cases h with | p h => cases h; rfl)
theorem usc_rs {w : Wd} {n : Nat} (a : AV) : RS w n (usc a) a := by
  unfold usc
  split
  · exact .p (.b _)
  · exact .p (.i _ _)
  · exact .p (.s _)
  · exact .un

/-! ### steps of the frame -/
theorem Fr.refl (k : Nat) (w : Wd) (h : SH) (ch : AH) : Fr k w h ch w h ch :=
  ⟨Nat.le_refl _, fun _ _ h => h, fun _ _ => rfl, fun _ _ _ => rfl, fun _ _ hi => ⟨hi, rfl⟩, fun i b c h1 h2 => .inl ⟨i, b, h1, h2⟩, fun _ _ h => .inl h⟩
theorem Fr.trans {k : Nat} {w w1 w2 : Wd} {h h1 h2 : SH} {ch ch1 ch2 : AH} (f : Fr k w h ch w1 h1 ch1) (g : Fr k w1 h1 ch1 w2 h2 ch2) : Fr k w h ch w2 h2 ch2 where
  nx := Nat.le_trans f.nx g.nx
  fro := fun id row h => g.fro _ _ (f.fro _ _ h)
  same := fun c hc hn => by
    have a := f.same c hc hn
    have b := g.same c (Nat.lt_of_lt_of_le hc f.nx) fun i b h1 h2 => by
      rcases f.src i b c h1 h2 with ⟨j, b', h3, h4⟩ | h3
      · exact hn j b' h3 h4
      · omega
    exact b.trans a
  rl := fun c hc => (g.rl c (Nat.lt_of_lt_of_le hc f.nx)).trans (f.rl c hc)
  pin := fun i hi hn => by
    have a := f.pin i hi hn
    have b := g.pin i hi a.1
    exact ⟨b.1, b.2.trans a.2⟩
  src := fun i b c h1 h2 => by
    rcases g.src i b c h1 h2 with ⟨j, b', h3, h4⟩ | h3
    · exact f.src j b' c h3 h4
    · exact .inr (Nat.le_trans f.nx h3)
  frz := fun id row h => by
    rcases g.frz id row h with h | h | ⟨j, b', h3, h4⟩
    · exact f.frz id row h
    · exact .inr (.inl (Nat.le_trans f.nx h))
    · rcases f.src j b' id h3 h4 with h5 | h5
      · exact .inr (.inr h5)
      · exact .inr (.inl h5)
end Go.Proofs.Ytadbipeachcekaa.Ab
/- The second machine: steps of memory. -/
namespace Go.Proofs.Ytadbipeachcekaa.Ab
open Go
set_option linter.unusedVariables false
def up {α : Type} (f : Nat → α) (i : Nat) (v : α) : Nat → α := fun j => if j = i then v else f j
theorem up_same {α : Type} (f : Nat → α) (i : Nat) (v : α) : up f i v i = v := by simp [up]
theorem up_ne {α : Type} (f : Nat → α) {i j : Nat} (v : α) (h : j ≠ i) : up f i v j = f j := by simp [up, h]
section
variable {k : Nat} {w : Wd} {h : SH} {ch : AH}
theorem live_lt {i : Nat} {b : B2} (hi : h[i]? = some (some b)) : i < h.length := (List.getElem?_eq_some_iff.1 hi).1
theorem RH.lv (r : RH w h ch) {i c : Nat} {b : B2} (hi : h[i]? = some (some b)) (hc : w.ρ i = some c) : c < ch.next := r.lt i c (live_lt hi) hc
def Wd.add (w : Wd) (n c len : Nat) : Wd := ⟨up w.ρ n (some c), w.fro, up w.rl c len⟩
theorem RH.addLe (r : RH w h ch) (len : Nat) : Le h.length w (w.add h.length ch.next len) where
  ρ := fun i hi => up_ne _ _ (by omega)
  fro := fun _ _ h => h
  rl := fun i c hi hc => up_ne _ _ (by have := r.lt i c hi hc; omega)
theorem get_snoc {b : B2} {i : Nat} {x : B2} (hi : (h ++ [some b])[i]? = some (some x)) : (i < h.length ∧ h[i]? = some (some x)) ∨ (i = h.length ∧ x = b) := by
  by_cases hlt : i < h.length
  · rw [List.getElem?_append_left hlt] at hi; exact .inl ⟨hlt, hi⟩
  · rw [List.getElem?_append_right (by omega)] at hi
    have : i - h.length = 0 := by
      have := (List.getElem?_eq_some_iff.1 hi).1
      simp at this; omega
    rw [this] at hi
    simp at hi
    exact .inr ⟨by omega, hi.symm⟩
/-- a new block -/
theorem RH.alloc (r : RH w h ch) {b : B2} {cb : Blk} {len : Nat} (hb : RB (w.add h.length ch.next len) (h.length + 1) ch.next b cb) :
    RH (w.add h.length ch.next len) (h ++ [some b]) (ch.alloc cb) ∧ Fr k w h ch (w.add h.length ch.next len) (h ++ [some b]) (ch.alloc cb) := by
  have hle := r.addLe len
  have hold : ∀ c, c < ch.next → (ch.alloc cb).blk c = ch.blk c := fun c hc => by simp only [AH.alloc]; rw [if_neg (by omega)]
  have hnew : (ch.alloc cb).blk ch.next = some cb := by simp [AH.alloc]
  have hρ : (w.add h.length ch.next len).ρ h.length = some ch.next := up_same _ _ _
  refine ⟨⟨?_, ?_, ?_, ?_, ?_, ?_, fun id hid => by simp only [AH.alloc] at hid ⊢; rw [if_neg (by omega)]; exact r.wf id (by omega)⟩, ⟨Nat.le_succ _, fun _ _ h => h, fun c hc => up_ne _ _ (by omega), fun c hc _ => hold c hc, fun i hi hn => ⟨by simp; omega, hle.ρ i hn⟩, ?_, fun _ _ h => .inl h⟩⟩
  · intro i j bi bj c hi hj hci hcj
    rcases get_snoc hi with ⟨h1, h2⟩ | ⟨rfl, rfl⟩ <;> rcases get_snoc hj with ⟨h3, h4⟩ | ⟨rfl, rfl⟩
    · rw [hle.ρ _ h1] at hci; rw [hle.ρ _ h3] at hcj; exact r.inj i j _ _ c h2 h4 hci hcj
    · rw [hle.ρ _ h1] at hci; rw [hρ] at hcj; cases hcj; have := r.lt i _ h1 hci; omega
    · rw [hle.ρ _ h3] at hcj; rw [hρ] at hci; cases hci; have := r.lt j _ h3 hcj; omega
    · rfl
  · intro i c hi hc
    simp only [List.length_append, List.length_cons, List.length_nil] at hi
    by_cases he : i = h.length
    · subst he; rw [hρ] at hc; cases hc; simp [AH.alloc]
    · rw [hle.ρ i (by omega)] at hc
      have := r.lt i c (by omega) hc
      simp only [AH.alloc]; omega
  · intro i bi c hi hc
    rcases get_snoc hi with ⟨h1, h2⟩ | ⟨rfl, rfl⟩
    · rw [hle.ρ _ h1] at hc; exact r.nf i _ c h2 hc
    · rw [hρ] at hc; cases hc
      show w.fro ch.next = none
      cases hf : w.fro ch.next with
      | none => rfl
      | some row => have := (r.fro _ _ hf).1; omega
  · intro id row hf
    have := r.fro id row hf
    exact ⟨Nat.lt_succ_of_lt this.1, by rw [hold _ this.1]; exact this.2⟩
  · intro i bi c hi hc
    rcases get_snoc hi with ⟨h1, h2⟩ | ⟨rfl, rfl⟩
    · rw [hle.ρ _ h1] at hc
      obtain ⟨cb', h3, h4⟩ := r.blk i _ c h2 hc
      refine ⟨cb', by rw [hold _ (r.lt i c h1 hc)]; exact h3, h4.mono hle (by simp) (hle.rl i c h1 hc)⟩
    · rw [hρ] at hc; cases hc
      exact ⟨cb, hnew, by simpa using hb⟩
  · intro i bi hi hv
    rcases get_snoc hi with ⟨h1, h2⟩ | ⟨rfl, rfl⟩
    · rw [hle.ρ _ h1] at hv; exact r.vir i _ h2 hv
    · rw [hρ] at hv; cases hv
  · intro i bi c hi hc
    rcases get_snoc hi with ⟨h1, h2⟩ | ⟨rfl, rfl⟩
    · rw [hle.ρ _ h1] at hc; exact .inl ⟨i, _, h2, hc⟩
    · rw [hρ] at hc; cases hc; exact .inr (Nat.le_refl _)
/-- a block is written -/
theorem RH.set (r : RH w h ch) {id c : Nat} {b b' : B2} {ccs' : Blk} (hi : h[id]? = some (some b)) (hc : w.ρ id = some c) (hb : RB w h.length c b' ccs') :
    RH w (h.set id (some b')) (ch.set c (some ccs')) ∧ Fr k w h ch w (h.set id (some b')) (ch.set c (some ccs')) := by
  have hlt := live_lt hi
  have hcl := r.lv hi hc
  have hget : ∀ {i : Nat} {x : B2}, (h.set id (some b'))[i]? = some (some x) → (i = id ∧ x = b') ∨ (i ≠ id ∧ h[i]? = some (some x)) := fun {i x} hx => by
    rw [List.getElem?_set] at hx
    split at hx
    · rename_i he; (try rw [if_pos hlt] at hx); cases hx; exact .inl ⟨he.symm, rfl⟩
    · rename_i he; exact .inr ⟨fun e => he e.symm, hx⟩
  have hlive : ∀ {i : Nat} {x : B2}, (h.set id (some b'))[i]? = some (some x) → ∃ y, h[i]? = some (some y) := fun {i x} hx => by
    rcases hget hx with ⟨rfl, rfl⟩ | ⟨_, h1⟩
    · exact ⟨b, hi⟩
    · exact ⟨x, h1⟩
  have hnf := r.nf id b c hi hc
  refine ⟨⟨?_, ?_, ?_, ?_, ?_, ?_, fun i hid => by have h2 : ch.next ≤ i := hid; simp only [AH.set]; rw [if_neg (by omega)]; exact r.wf i h2⟩, ⟨Nat.le_refl _, fun _ _ h => h, fun _ _ => rfl, fun c' hc' hn => ?_, fun i _ hn => ⟨by simpa using hn, rfl⟩, ?_, fun _ _ h => .inl h⟩⟩
  · intro i j bi bj d h1 h2
    obtain ⟨x, hx⟩ := hlive h1
    obtain ⟨y, hy⟩ := hlive h2
    exact r.inj i j x y d hx hy
  · intro i d h1 h2; exact r.lt i d (by simpa using h1) h2
  · intro i x d h1 h2; obtain ⟨y, hy⟩ := hlive h1; exact r.nf i y d hy h2
  · intro i row hf
    refine ⟨(r.fro i row hf).1, ?_⟩
    simp only [AH.set]
    rw [if_neg (fun e => by subst e; rw [hnf] at hf; cases hf)]
    exact (r.fro i row hf).2
  · intro i x d h1 h2
    rw [List.length_set]
    rcases hget h1 with ⟨rfl, rfl⟩ | ⟨hne, h3⟩
    · rw [hc] at h2; cases h2
      exact ⟨ccs', by simp [AH.set], hb⟩
    · obtain ⟨cb, h4, h5⟩ := r.blk i x d h3 h2
      refine ⟨cb, ?_, h5⟩
      simp only [AH.set]
      rw [if_neg (fun e => by subst e; exact hne (r.inj i id x b d h3 hi h2 hc))]
      exact h4
  · intro i x h1 h2
    rcases hget h1 with ⟨rfl, rfl⟩ | ⟨hne, h3⟩
    · rw [hc] at h2; cases h2
    · exact r.vir i x h3 h2
  · simp only [AH.set]
    rw [if_neg (fun e => by subst e; exact hn id b hi hc)]
  · intro i x d h1 h2
    obtain ⟨y, hy⟩ := hlive h1
    exact .inl ⟨i, y, hy, h2⟩
/-- a block is given up -/
theorem RH.drop (r : RH w h ch) (id : Nat) : RH w (h.set id none) ch ∧ Fr k w h ch w (h.set id none) ch := by
  have hlive : ∀ {i : Nat} {x : B2}, (h.set id none)[i]? = some (some x) → h[i]? = some (some x) := fun {i x} hx => by
    rw [List.getElem?_set] at hx
    split at hx
    · split at hx <;> cases hx
    · exact hx
  refine ⟨⟨fun i j bi bj d h1 h2 => r.inj i j bi bj d (hlive h1) (hlive h2), fun i d h1 h2 => r.lt i d (by simpa using h1) h2, fun i x d h1 h2 => r.nf i x d (hlive h1) h2, r.fro, ?_, fun i x h1 h2 => r.vir i x (hlive h1) h2, r.wf⟩,
    ⟨Nat.le_refl _, fun _ _ h => h, fun _ _ => rfl, fun c' hc' hn => rfl, fun i _ hn => ⟨by simpa using hn, rfl⟩, fun i x d h1 h2 => .inl ⟨i, x, hlive h1, h2⟩, fun _ _ h => .inl h⟩⟩
  intro i x d h1 h2
  rw [List.length_set]
  exact r.blk i x d (hlive h1) h2
/-- a row that moves: the old number is given up, a new one stands for the row, where it is or where it comes to be -/
def Wd.mv (w : Wd) (n : Nat) (c : Option Nat) (rl : Nat → Nat) : Wd := ⟨up w.ρ n c, w.fro, rl⟩
theorem RH.move (r : RH w h ch) {id : Nat} {b b' : B2} (hi : h[id]? = some (some b)) {c' : Option Nat} {ch' : AH} {rl : Nat → Nat} (hn : ch.next ≤ ch'.next)
    (hsame : ∀ d, d < ch.next → w.ρ id ≠ some d → ch'.blk d = ch.blk d) (hrl : ∀ d, d < ch.next → rl d = w.rl d) (hc' : ∀ d, c' = some d → d < ch'.next ∧ (w.ρ id = some d ∨ ch.next ≤ d))
    (hb : ∀ d, c' = some d → ∃ cb, ch'.blk d = some cb ∧ RB (w.mv h.length c' rl) (h.length + 1) d b' cb) (hv : c' = none → ∃ esz, b' = .arr esz []) (hwf : ∀ i, ch'.next ≤ i → ch'.blk i = none) :
    RH (w.mv h.length c' rl) (h.set id none ++ [some b']) ch' ∧ Le h.length w (w.mv h.length c' rl) ∧ Fr k w h ch (w.mv h.length c' rl) (h.set id none ++ [some b']) ch' := by
  have hlen : (h.set id none).length = h.length := by simp
  have hle : Le h.length w (w.mv h.length c' rl) := ⟨fun i hi => up_ne _ _ (by omega), fun _ _ h => h, fun i c h1 h2 => hrl c (r.lt i c h1 h2)⟩
  have hρ : (w.mv h.length c' rl).ρ h.length = c' := up_same _ _ _
  have hlive : ∀ {i : Nat} {x : B2}, (h.set id none)[i]? = some (some x) → i ≠ id ∧ h[i]? = some (some x) := fun {i x} hx => by
    rw [List.getElem?_set] at hx
    split at hx
    · split at hx <;> cases hx
    · rename_i he; exact ⟨fun e => he e.symm, hx⟩
  have hsn : ∀ {i : Nat} {x : B2}, (h.set id none ++ [some b'])[i]? = some (some x) → (i < h.length ∧ i ≠ id ∧ h[i]? = some (some x)) ∨ (i = h.length ∧ x = b') := fun {i x} hx => by
    rcases get_snoc hx with ⟨h1, h2⟩ | ⟨h1, h2⟩
    · exact .inl ⟨by omega, hlive h2⟩
    · exact .inr ⟨by omega, h2⟩
  have hnew : ∀ {j : Nat} {x : B2} {d : Nat}, j ≠ id → h[j]? = some (some x) → w.ρ j = some d → c' ≠ some d := fun {j x d} hj hx hd e => by
    rcases (hc' d e).2 with h1 | h1
    · exact hj (r.inj j id x b d hx hi hd h1)
    · have := r.lv hx hd; omega
  refine ⟨⟨?_, ?_, ?_, ?_, ?_, ?_, hwf⟩, hle, ⟨hn, fun _ _ h => h, hrl, fun d hd hno => hsame d hd (hno id b hi), fun i _ h1 => ⟨by simp; omega, hle.ρ i h1⟩, ?_, fun _ _ h => .inl h⟩⟩
  · intro i j bi bj d h1 h2 h3 h4
    rcases hsn h1 with ⟨a1, a2, a3⟩ | ⟨rfl, rfl⟩ <;> rcases hsn h2 with ⟨b1, b2, b3⟩ | ⟨rfl, rfl⟩
    · rw [hle.ρ _ a1] at h3; rw [hle.ρ _ b1] at h4; exact r.inj i j _ _ d a3 b3 h3 h4
    · rw [hle.ρ _ a1] at h3; rw [hρ] at h4; exact (hnew a2 a3 h3 h4).elim
    · rw [hle.ρ _ b1] at h4; rw [hρ] at h3; exact (hnew b2 b3 h4 h3).elim
    · rfl
  · intro i d h1 h2
    simp only [List.length_append, List.length_cons, List.length_nil, hlen] at h1
    by_cases he : i = h.length
    · subst he; rw [hρ] at h2; exact (hc' d h2).1
    · rw [hle.ρ i (by omega)] at h2
      exact Nat.lt_of_lt_of_le (r.lt i d (by omega) h2) hn
  · intro i x d h1 h2
    rcases hsn h1 with ⟨a1, a2, a3⟩ | ⟨rfl, rfl⟩
    · rw [hle.ρ _ a1] at h2; exact r.nf i x d a3 h2
    · rw [hρ] at h2
      rcases (hc' d h2).2 with h3 | h3
      · exact r.nf id b d hi h3
      · show w.fro d = none
        cases hf : w.fro d with
        | none => rfl
        | some row => have := (r.fro _ _ hf).1; omega
  · intro i row hf
    have h1 := r.fro i row hf
    refine ⟨Nat.lt_of_lt_of_le h1.1 hn, ?_⟩
    have hf2 : w.fro i = some row := hf
    rw [hsame i h1.1 (fun e => by have := r.nf id b i hi e; rw [this] at hf2; cases hf2)]
    exact h1.2
  · intro i x d h1 h2
    have hl1 : (h.set id none ++ [some b']).length = h.length + 1 := by simp
    rw [hl1]
    rcases hsn h1 with ⟨a1, a2, a3⟩ | ⟨rfl, rfl⟩
    · rw [hle.ρ _ a1] at h2
      obtain ⟨cb, h3, h4⟩ := r.blk i x d a3 h2
      exact ⟨cb, by rw [hsame d (r.lv a3 h2) (fun e => a2 (r.inj i id x b d a3 hi h2 e))]; exact h3, h4.mono hle (Nat.le_succ _) (hle.rl i d a1 h2)⟩
    · rw [hρ] at h2
      exact hb d h2
  · intro i x h1 h2
    rcases hsn h1 with ⟨a1, a2, a3⟩ | ⟨rfl, rfl⟩
    · rw [hle.ρ _ a1] at h2; exact r.vir i x a3 h2
    · rw [hρ] at h2; exact hv h2
  · intro i x d h1 h2
    rcases hsn h1 with ⟨a1, a2, a3⟩ | ⟨rfl, rfl⟩
    · rw [hle.ρ _ a1] at h2; exact .inl ⟨i, x, a3, h2⟩
    · rw [hρ] at h2
      rcases (hc' d h2).2 with h3 | h3
      · exact .inl ⟨id, b, hi, h3⟩
      · exact .inr h3
/-- a new number for a list that isn't there yet -/
theorem RH.virt (r : RH w h ch) (esz : Nat) : RH (w.mv h.length none w.rl) (h ++ [some (.arr esz [])]) ch ∧ Le h.length w (w.mv h.length none w.rl) ∧ Fr k w h ch (w.mv h.length none w.rl) (h ++ [some (.arr esz [])]) ch := by
  have hle : Le h.length w (w.mv h.length none w.rl) := ⟨fun i hi => up_ne _ _ (by omega), fun _ _ h => h, fun i c h1 h2 => rfl⟩
  have hρ : (w.mv h.length none w.rl).ρ h.length = none := up_same _ _ _
  refine ⟨⟨?_, ?_, ?_, r.fro, ?_, ?_, r.wf⟩, hle, ⟨Nat.le_refl _, fun _ _ h => h, fun _ _ => rfl, fun d hd hno => rfl, fun i _ h1 => ⟨by simp; omega, hle.ρ i h1⟩, ?_, fun _ _ h => .inl h⟩⟩
  · intro i j bi bj d h1 h2 h3 h4
    rcases get_snoc h1 with ⟨a1, a3⟩ | ⟨rfl, rfl⟩ <;> rcases get_snoc h2 with ⟨b1, b3⟩ | ⟨rfl, rfl⟩
    · rw [hle.ρ _ a1] at h3; rw [hle.ρ _ b1] at h4; exact r.inj i j _ _ d a3 b3 h3 h4
    · rw [hρ] at h4; cases h4
    · rw [hρ] at h3; cases h3
    · rfl
  · intro i d h1 h2
    simp only [List.length_append, List.length_cons, List.length_nil] at h1
    by_cases he : i = h.length
    · subst he; rw [hρ] at h2; cases h2
    · rw [hle.ρ i (by omega)] at h2
      exact r.lt i d (by omega) h2
  · intro i x d h1 h2
    rcases get_snoc h1 with ⟨a1, a3⟩ | ⟨rfl, rfl⟩
    · rw [hle.ρ _ a1] at h2; exact r.nf i x d a3 h2
    · rw [hρ] at h2; cases h2
  · intro i x d h1 h2
    rcases get_snoc h1 with ⟨a1, a3⟩ | ⟨rfl, rfl⟩
    · rw [hle.ρ _ a1] at h2
      obtain ⟨cb, h3, h4⟩ := r.blk i x d a3 h2
      exact ⟨cb, h3, h4.mono hle (by simp) rfl⟩
    · rw [hρ] at h2; cases h2
  · intro i x h1 h2
    rcases get_snoc h1 with ⟨a1, a3⟩ | ⟨rfl, rfl⟩
    · rw [hle.ρ _ a1] at h2; exact r.vir i x a3 h2
    · exact ⟨_, rfl⟩
  · intro i x d h1 h2
    rcases get_snoc h1 with ⟨a1, a3⟩ | ⟨rfl, rfl⟩
    · rw [hle.ρ _ a1] at h2; exact .inl ⟨i, x, a3, h2⟩
    · rw [hρ] at h2; cases h2
end
end Go.Proofs.Ytadbipeachcekaa.Ab
/- The second machine: operations. -/
namespace Go.Proofs.Ytadbipeachcekaa.Ab
open Go
set_option linter.unusedVariables false
def cst : AV → SV
  | .b x => .p (.b x)
  | .i k n => .p (.i k n)
  | .s x => .p (.s x)
  | .nilp => .p .nilp
  | .nils => .p .nils
  | .nilm => .p .nilm
  | .nilf => .p .nilf
  | .fn f [] [] => .fn f [] []
  | _ => .un
def evs (e : SE) : AX → SV
  | .t n => eg e n
  | .c v => cst v
def scs : List SV → Option (List AV)
  | [] => some []
  | v :: r =>
    match sc v, scs r with
    | some a, some l => some (a :: l)
    | _, _ => none
def pvs : List SV → Option (List PV)
  | [] => some []
  | .p v :: r => (pvs r).map (v :: ·)
  | _ => none
def setg {α : Type} : List α → Nat → List α → List α
  | cs, _, [] => cs
  | cs, o, v :: r => setg (cs.set o v) (o + 1) r
def ldc (sz : Option Nat) (t : Nat) (cs : List SV) : Option SV :=
  match sz with
  | none => match cs[t]? with | some v => if v.isUn then none else some v | none => none
  | some n => if t + n ≤ cs.length ∧ ((cs.drop t).take n).any SV.isUn = false then some (.agg ((cs.drop t).take n)) else none
def ldp (sz : Option Nat) (t : Nat) (cs : List PV) : Option SV :=
  match sz with
  | none => (cs[t]?).map .p
  | some n => if t + n ≤ cs.length then some (.agg (((cs.drop t).take n).map .p)) else none
def bAt (h : SH) (id : Nat) : Option B2 :=
  match h[id]? with
  | some (some b) => some b
  | _ => none
def ld2 (sz : Option Nat) (a : SV) (h : SH) : Option SV :=
  match a with
  | .ptr id off => match bAt h id with | some (.obj cs) => ldc sz off cs | _ => none
  | .ep esz id j t => match bAt h id with | some (.arr esz' els) => if esz' = esz then (match els[j]? with | some el => ldp sz t el | none => none) else none | _ => none
  | .p (.fp cs t) => ldp sz t cs
  | _ => none
def st2 (sz : Nat) (a v : SV) (h : SH) : Option SH :=
  match v.cl with
  | none => none
  | some vs =>
    if vs.length = sz then
      match a with
      | .ptr id off => match bAt h id with | some (.obj cs) => if off + vs.length ≤ cs.length then some (h.set id (some (.obj (setg cs off vs)))) else none | _ => none
      | .ep esz id j t =>
        match bAt h id with
        | some (.arr esz' els) =>
          if esz' = esz then
            match els[j]?, pvs vs with
            | some el, some ps => if t + ps.length ≤ el.length then some (h.set id (some (.arr esz (els.set j (setg el t ps))))) else none
            | _, _ => none
          else none
        | _ => none
      | _ => none
    else none
def sptr : SV → Bool
  | .ptr _ _ => true
  | .ep _ _ _ _ => true
  | .p (.fp _ _) => true
  | _ => false
def chk2 (v : SV) : Option SV :=
  match v with
  | .ptr _ _ => some v
  | .ep _ _ _ _ => some v
  | .p (.fp _ _) => some v
  | .fn _ _ _ => some v
  | _ => none
def fa2 (off : Nat) (v : SV) : Option SV :=
  match v with
  | .ptr id o => some (.ptr id (o + off))
  | .ep e id j t => some (.ep e id j (t + off))
  | .p (.fp cs t) => some (.p (.fp cs (t + off)))
  | _ => none
def ia2 (esz : Nat) (x ix : SV) : Option SV :=
  match x, ix with
  | .sl esz' id off len _, .p (.i _ n) => if esz' = esz ∧ 0 ≤ n ∧ n < (len : Int) then some (.ep esz id (off + n.toNat) 0) else none
  | .so esz' id off len, .p (.i _ n) => if esz' = esz ∧ 0 ≤ n ∧ n < (len : Int) then some (.ptr id (off + n.toNat * esz)) else none
  | .p (.fz esz' els), .p (.i _ n) => if esz' = esz ∧ 0 ≤ n then (els[n.toNat]?).map fun el => .p (.fp el 0) else none
  | _, _ => none
def iaa2 (n esz : Nat) (x ix : SV) : Option SV :=
  match ix with
  | .p (.i _ j) => if 0 ≤ j ∧ j < (n : Int) then fa2 (j.toNat * esz) x else none
  | _ => none
def ix2 (n esz : Nat) (ag : Bool) (x ix : SV) : Option SV :=
  match x, ix with
  | .agg cs, .p (.i _ j) =>
    if 0 ≤ j ∧ j < (n : Int) then
      if ag then (if j.toNat * esz + esz ≤ cs.length then some (.agg ((cs.drop (j.toNat * esz)).take esz)) else none) else cs[j.toNat * esz]?
    else none
  | _, _ => none
def ixs2 (x ix : SV) : Option SV :=
  match x, ix with
  | .p (.s l), .p (.i _ j) => if 0 ≤ j then (l[j.toNat]?).map fun c => .p (.i .u8 c.toNat) else none
  | _, _ => none
def fld2 (off : Nat) (sz : Option Nat) (x : SV) : Option SV :=
  match x, sz with
  | .agg cs, none => cs[off]?
  | .agg cs, some n => if off + n ≤ cs.length then some (.agg ((cs.drop off).take n)) else none
  | _, _ => none
def ext2 (ix : Nat) (x : SV) : Option SV :=
  match x with
  | .tup vs => vs[ix]?
  | _ => none
def bnd2 (v : Option SV) (d m : Nat) : Option Nat :=
  match v with
  | none => some d
  | some (.p (.i _ n)) => if 0 ≤ n ∧ n ≤ m then some n.toNat else none
  | _ => none
def slc2 (esz : Nat) (x : SV) (lo hi mx : Option SV) : Option SV :=
  if (mx.isSome && hi.isNone) = true then none else
  match x with
  | .p .nils =>
    match bnd2 mx 0 0, bnd2 hi 0 0, bnd2 lo 0 0 with
    | some _, some _, some _ => some (.p .nils)
    | _, _, _ => none
  | .sl esz' id off len cap =>
    if esz' = esz then
    match bnd2 mx (cap.getD len) (cap.getD len) with
    | none => none
    | some m =>
      match bnd2 hi len m with
      | none => none
      | some h =>
        match bnd2 lo 0 h with
        | none => none
        | some l => some (.sl esz id (off + l) (h - l) (some (m - l)))
    else none
  | .p (.fz esz' els) =>
    if esz' = esz then
    match bnd2 mx els.length els.length with
    | none => none
    | some m =>
      match bnd2 hi els.length m with
      | none => none
      | some h =>
        match bnd2 lo 0 h with
        | none => none
        | some l => some (.p (.fz esz ((els.take h).drop l)))
    else none
  | _ => none
def sls2 (x : SV) (lo hi : Option SV) : Option SV :=
  match x with
  | .p (.s l) =>
    match bnd2 hi l.length l.length with
    | none => none
    | some h =>
      match bnd2 lo 0 h with
      | none => none
      | some o => some (.p (.s ((l.take h).drop o)))
  | _ => none
def sla2 (n esz : Nat) (x : SV) (lo hi : Option SV) : Option SV :=
  match x with
  | .ptr id off =>
    match bnd2 hi n n with
    | none => none
    | some h =>
      match bnd2 lo 0 h with
      | none => none
      | some l => some (.so esz id (off + l * esz) (h - l))
  | _ => none
def len2 (k : LK) (x : SV) (h : SH) : Option SV :=
  match k, x with
  | .st, .p (.s l) => some (.p (.i .i64 l.length))
  | .sl, .p .nils => some (.p (.i .i64 0))
  | .sl, .sl _ _ _ n _ => some (.p (.i .i64 n))
  | .sl, .so _ _ _ n => some (.p (.i .i64 n))
  | .sl, .p (.fz _ els) => some (.p (.i .i64 els.length))
  | .mp, .p .nilm => some (.p (.i .i64 0))
  | .mp, .mp id => match bAt h id with | some (.map es) => some (.p (.i .i64 es.length)) | _ => none
  | _, _ => none
def show2 (esz : Nat) (x : SV) (h : SH) : Option (List (List PV)) :=
  match x with
  | .p .nils => some []
  | .sl esz' id off len _ => match bAt h id with | some (.arr e' els) => if e' = esz ∧ esz' = esz ∧ off + len ≤ els.length then some ((els.drop off).take len) else none | _ => none
  | .p (.fz esz' els) => if esz' = esz then some els else none
  | .p (.s l) => if esz = 1 then some (l.map fun c => [.i .u8 c.toNat]) else none
  | _ => none
def app2 (esz bytes : Nat) (s x : SV) (h : SH) : Option (SV × SH) :=
  match show2 esz x h with
  | none => none
  | some new =>
    if 0 < esz ∧ 0 < bytes then
      match s with
      | .p .nils => if new.length * bytes ≤ room then some (.sl esz h.length 0 new.length none, h ++ [some (.arr esz new)]) else none
      | .sl esz' id off len cap =>
        match bAt h id with
        | some (.arr e' els) =>
          if e' = esz ∧ esz' = esz then
            match cap with
            | none => if off = 0 ∧ len ≤ els.length ∧ (len + new.length) * bytes ≤ room then some (.sl esz h.length 0 (len + new.length) none, h.set id none ++ [some (.arr esz (els.take len ++ new))]) else none
            | some m => if len + new.length ≤ m ∧ off + (len + new.length) ≤ els.length then
                some (.sl esz id off (len + new.length) (some m), h.set id (some (.arr esz (els.take (off + len) ++ new ++ els.drop (off + len + new.length))))) else none
          else none
        | _ => none
      | _ => none
    else none
/-- a row that has numbers of blocks in it is put behind nothing: a new one -/
def appo2 (esz bytes : Nat) (s : SV) (esz' id off n : Nat) (h : SH) : Option (SV × SH) :=
  match s with
  | .p .nils =>
    match bAt h id with
    | some (.obj cs) => if esz' = esz ∧ 0 < esz ∧ 0 < bytes ∧ 0 < n ∧ off + n * esz ≤ cs.length ∧ n * bytes ≤ room ∧ ((cs.drop off).take (n * esz)).any SV.isUn = false then some (.so esz h.length 0 n, h ++ [some (.obj ((cs.drop off).take (n * esz)))]) else none
    | _ => none
  | _ => none
def cpy2 (esz : Nat) (d s : SV) (h : SH) : Option (SV × SH) :=
  match show2 esz s h with
  | none => none
  | some new =>
    match d with
    | .sl esz' id off len cap =>
      match bAt h id with
      | some (.arr e' els) => if 0 < esz ∧ e' = esz ∧ esz' = esz ∧ off + len ≤ els.length then
          some (.p (.i .i64 (min new.length len : Nat)), h.set id (some (.arr esz (els.take off ++ new.take len ++ els.drop (off + min new.length len))))) else none
      | _ => none
    | _ => none
def csts : List AV → Option (List PV)
  | [] => some []
  | v :: r =>
    match cst v, csts r with
    | .p a, some l => some (a :: l)
    | _, _ => none
def clr2 (esz : Nat) (z : List AV) (x : SV) (h : SH) : Option (SV × SH) :=
  match x with
  | .p .nils => some (.tup [], h)
  | .sl esz' id off len cap =>
    match bAt h id, csts z with
    | some (.arr e' els), some zs => if 0 < esz ∧ e' = esz ∧ esz' = esz ∧ off + len ≤ els.length ∧ zs.length = esz then
        some (.tup [], h.set id (some (.arr esz (els.take off ++ List.replicate len zs ++ els.drop (off + len))))) else none
    | _, _ => none
  | _ => none
def mks2 (esz bytes : Nat) (z : List AV) (l c : SV) (h : SH) : Option (SV × SH) :=
  match l, c, csts z with
  | .p (.i .i64 l), .p (.i .i64 c), some zs =>
    if 0 ≤ l ∧ l ≤ c ∧ c * bytes ≤ room ∧ 0 < bytes ∧ zs.length = esz ∧ 0 < esz then some (.sl esz h.length 0 l.toNat none, h ++ [some (.arr esz (List.replicate l.toNat zs))]) else none
  | _, _, _ => none
def fills2 (e : SE) : List SV → List (Nat × Nat × AX) → Option (List SV)
  | z, [] => some z
  | z, (o, n, x) :: r =>
    match (evs e x).cl with
    | some cs => if cs.length = n ∧ o + n ≤ z.length then fills2 e (setg z o cs) r else none
    | none => none
def chunk {α : Type} (esz : Nat) : Nat → List α → List (List α)
  | 0, _ => []
  | n + 1, l => l.take esz :: chunk esz n (l.drop esz)
def aeq2 (kd : EK) (x y : SV) : Option Bool :=
  match kd, x, y with
  | .bo, .p (.b x), .p (.b y) => some (x == y)
  | .pt, .p .nilp, .p .nilp => some true
  | .pt, x, .p .nilp => if sptr x then some false else none
  | .pt, .p .nilp, y => if sptr y then some false else none
  | .sl, .p .nils, .p .nils => some true
  | .sl, .p (.fz _ (_ :: _)), .p .nils => some false
  | .sl, .sl _ _ _ (_ + 1) _, .p .nils => some false
  | .mp, .p .nilm, .p .nilm => some true
  | .mp, .mp _, .p .nilm => some false
  | .fn, .p .nilf, .p .nilf => some true
  | .fn, .fn _ _ _, .p .nilf => some false
  | .ag ks, .agg xs, .agg ys => match scs xs, scs ys with | some a, some b => aeqs ks a b | _, _ => none
  | _, _, _ => none
def key2 : SV → Option AV
  | .agg cs => (scs cs).map .agg
  | v => sc v
def keyq2 (kk : KK) (a b : SV) : Option Bool :=
  match key2 a, key2 b with
  | some x, some y => keyq kk x y
  | _, _ => none
def kok2 (kk : KK) (a : SV) : Bool :=
  match key2 a with
  | some x => kok kk x
  | none => false
def kfind2 (kk : KK) (k : SV) : List (SV × SV) → Nat → Option (Option (Nat × SV))
  | [], _ => some none
  | (x, v) :: r, j =>
    match keyq2 kk k x with
    | some true => some (some (j, v))
    | some false => kfind2 kk k r (j + 1)
    | none => none
def mapAt (m : SV) (h : SH) : Option (Nat × List (SV × SV)) :=
  match m with
  | .mp id => match bAt h id with | some (.map es) => some (id, es) | _ => none
  | _ => none
def mfind (kk : KK) (k : SV) (es : List (SV × SV)) : Option (Option (Nat × SV)) := if kok2 kk k then kfind2 kk k es 0 else none
def lkp2 (kk : KK) (z : AV) (ok : Bool) (m k : SV) (h : SH) : Option SV :=
  match mapAt m h with
  | none => none
  | some (_, es) =>
    match mfind kk k es with
    | none => none
    | some none => some (if ok then .tup [zv z, .p (.b false)] else zv z)
    | some (some (_, v)) => some (if ok then .tup [v, .p (.b true)] else v)
where zv : AV → SV
  | .agg cs => .agg (cs.map cst)
  | v => cst v
def mup2 (kk : KK) (m k v : SV) (h : SH) : Option SH :=
  match mapAt m h with
  | none => none
  | some (id, es) =>
    if k.cl.isSome ∧ v.cl.isSome then
    match mfind kk k es with
    | none => none
    | some none => some (h.set id (some (.map (es ++ [(k, v)]))))
    | some (some (j, _)) => some (h.set id (some (.map (es.set j (k, v)))))
    else none
def del2 (kk : KK) (m k : SV) (h : SH) : Option SH :=
  match mapAt m h with
  | none => none
  | some (id, es) =>
    match mfind kk k es with
    | none => none
    | some none => some h
    | some (some (j, _)) => some (h.set id (some (.map (es.eraseIdx j))))
def bytes2 : List (List PV) → Option (List UInt8)
  | [] => some []
  | [.i .u8 n] :: r => (bytes2 r).map (UInt8.ofNat n.toNat :: ·)
  | _ => none
def ph (h : SH) (v : Option SV) : Option (SV × SH) := v.map fun x => (x, h)
def uns (h : SH) (v : Option SH) : Option (SV × SH) := v.map fun x => (.tup [], x)

/-- an operation that is no call -/
def aop2 (o : AO) (e : SE) (h : SH) : Option (SV × SH) :=
  match o with
  | .mv x => some (evs e x, h)
  | .pick c a b =>
    match evs e c with
    | .p (.b true) => some (evs e a, h)
    | .p (.b false) => some (evs e b, h)
    | _ => none
  | .bin op x y => ph h (match sc (evs e x), sc (evs e y) with | some a, some b => (abin op a b).map usc | _, _ => none)
  | .eq kd neg x y => ph h ((aeq2 kd (evs e x) (evs e y)).map fun r => .p (.b (r != neg)))
  | .not x => ph h (match evs e x with | .p (.b v) => some (.p (.b (!v))) | _ => none)
  | .neg x => ph h (match evs e x with | .p (.i k n) => some (.p (.i k (k.wrap (0 - n)))) | _ => none)
  | .xor x => ph h (match evs e x with | .p (.i k n) => some (usc (bitw k (· ^^^ ·) (if k.signed then -1 else k.max) n)) | _ => none)
  | .toInt k x => ph h (match evs e x with | .p (.i _ n) => some (.p (.i k (k.wrap n))) | _ => none)
  | .same x => ph h (match evs e x with | .p (.s l) => some (.p (.s l)) | _ => none)
  | .toStr x => ph h (match show2 1 (evs e x) h with | some els => (bytes2 els).map fun l => .p (.s l) | none => none)
  | .toBytes x =>
    match evs e x with
    | .p (.s l) => if l.length ≤ 9223372036854775807 then some (.sl 1 h.length 0 l.length none, h ++ [some (.arr 1 (l.map fun c => [.i .u8 c.toNat]))]) else none
    | _ => none
  | .mark x =>
    match evs e x with
    | .sl esz id off len cap =>
      match bAt h id with
      | some (.arr _ _) => if 0 < len then some (.sl esz id off len cap, h) else none
      | _ => none
    | _ => none
  | .runeStr x => ph h (match evs e x with | .p (.i _ n) => if 0 ≤ n ∧ n < 128 then some (.p (.s [UInt8.ofNat n.toNat])) else none | _ => none)
  | .alloc z => some (.ptr h.length 0, h ++ [some (.obj (z.map cst))])
  | .box sz x =>
    match (evs e x).cl with
    | some cs => if cs.length = sz then some (.ptr h.length 0, h ++ [some (.obj cs)]) else none
    | none => none
  | .build z ps => ph h ((fills2 e (z.map cst) ps).map .agg)
  | .bsl esz len z ps =>
    match fills2 e (z.map cst) ps with
    | some cs =>
      match pvs cs with
      | some l => if 0 < esz ∧ l.length = len * esz then some (.sl esz h.length 0 len none, h ++ [some (.arr esz (chunk esz len l))]) else none
      | none => if cs.length = len * esz then some (.so esz h.length 0 len, h ++ [some (.obj cs)]) else none
    | none => none
  | .ld sz a => ph h (ld2 sz (evs e a) h)
  | .st sz a v => uns h (st2 sz (evs e a) (evs e v) h)
  | .chk x => ph h (chk2 (evs e x))
  | .fa off a => ph h (fa2 off (evs e a))
  | .ia esz x ix => ph h (ia2 esz (evs e x) (evs e ix))
  | .iaa n esz x ix => ph h (iaa2 n esz (evs e x) (evs e ix))
  | .ix n esz ag x ix => ph h (ix2 n esz ag (evs e x) (evs e ix))
  | .ixs x ix => ph h (ixs2 (evs e x) (evs e ix))
  | .fld off sz x => ph h (fld2 off sz (evs e x))
  | .ext ix x => ph h (ext2 ix (evs e x))
  | .slc esz x lo hi mx => ph h (slc2 esz (evs e x) (lo.map (evs e)) (hi.map (evs e)) (mx.map (evs e)))
  | .sls x lo hi => ph h (sls2 (evs e x) (lo.map (evs e)) (hi.map (evs e)))
  | .sla n esz x lo hi => ph h (sla2 n esz (evs e x) (lo.map (evs e)) (hi.map (evs e)))
  | .mks esz bytes z l c => mks2 esz bytes z (evs e l) (evs e c) h
  | .mkm => some (.mp h.length, h ++ [some (.map [])])
  | .lkp kk z ok m k => ph h (lkp2 kk z ok (evs e m) (evs e k) h)
  | .mup kk m k v => uns h (mup2 kk (evs e m) (evs e k) (evs e v) h)
  | .mkf f first cap => if (first.map (evs e)).all sptr ∧ (cap.map (evs e)).all sptr then some (.fn f (first.map (evs e)) (cap.map (evs e)), h) else none
  | .len k x => ph h (len2 k (evs e x) h)
  | .app esz bytes s x =>
    match evs e x with
    | .so esz' id off n => appo2 esz bytes (evs e s) esz' id off n h
    | x => app2 esz bytes (evs e s) x h
  | .cpy esz d s => cpy2 esz (evs e d) (evs e s) h
  | .mn l => ph h (match scs (l.map (evs e)) with | some (x :: r) => (amins x r).map usc | _ => none)
  | .mx l => ph h (match scs (l.map (evs e)) with | some (x :: r) => (amaxs x r).map usc | _ => none)
  | .del kk m k => uns h (del2 kk (evs e m) (evs e k) h)
  | .clr esz z x => clr2 esz z (evs e x) h
  | _ => none
end Go.Proofs.Ytadbipeachcekaa.Ab
/- The second machine: operations that only read are those of the first. -/
namespace Go.Proofs.Ytadbipeachcekaa.Ab
open Go
set_option linter.unusedVariables false
section
variable {k : Nat} {w : Wd} {h : SH} {ch : AH} {n : Nat}
theorem cst_rs (v : AV) : RS w n (cst v) v := by
  cases v <;> first | exact .un | exact .p (.b _) | exact .p (.i _ _) | exact .p (.s _) | exact .p .nilp | exact .p .nils | exact .p .nilm | exact .p .nilf | skip
  rename_i f a b
  cases a <;> cases b <;> first | exact .un | exact .fn rfl (by simp) rfl (by simp)
theorem evs_rs {e : SE} {ce : Env} (he : RE w n e ce) (x : AX) : RS w n (evs e x) (ev ce x) := by
  cases x with
  | t s => exact he s
  | c v => exact cst_rs v
theorem evs_map {e : SE} {ce : Env} (he : RE w n e ce) (l : List AX) : P2 (RS w n) (l.map (evs e)) (l.map (ev ce)) := by
  refine ⟨by simp, fun j x y hx hy => ?_⟩
  rw [List.getElem?_map] at hx hy
  cases hl : l[j]? with
  | none => simp [hl] at hx
  | some a => simp [hl] at hx hy; subst hx; subst hy; exact evs_rs he a
theorem cst_map (z : List AV) : P2 (RS w n) (z.map cst) z := by
  refine ⟨by simp, fun j x y hx hy => ?_⟩
  rw [List.getElem?_map] at hx
  simp [hy] at hx
  subst hx
  exact cst_rs y
theorem scs_eq : ∀ {xs : List SV} {ys as : List AV}, P2 (RS w n) xs ys → scs xs = some as → ys = as
  | [], ys, as, h, hs => by
    cases hs
    exact List.length_eq_zero_iff.1 h.1.symm
  | v :: r, ys, as, h, hs => by
    simp only [scs] at hs
    split at hs
    · rename_i a l h1 h2
      cases hs
      cases ys with
      | nil => have := h.1; simp at this
      | cons y ys =>
        have hy := h.2 0 v y rfl rfl
        have hr : P2 (RS w n) r ys := ⟨by have := h.1; simpa using this, fun j a b ha hb => h.2 (j + 1) a b (by simpa using ha) (by simpa using hb)⟩
        rw [sc_eq hy h1, scs_eq hr h2]
    · cases hs
theorem pvs_eq : ∀ {cs : List SV} {ps : List PV}, pvs cs = some ps → cs = ps.map .p
  | [], ps, h => by cases h; rfl
  | .p v :: r, ps, h => by
    simp only [pvs, Option.map_eq_some_iff] at h
    obtain ⟨l, h1, rfl⟩ := h
    rw [pvs_eq h1]; rfl
  | .ptr _ _ :: _, ps, h => by simp [pvs] at h
  | .ep _ _ _ _ :: _, ps, h => by simp [pvs] at h
  | .sl _ _ _ _ _ :: _, ps, h => by simp [pvs] at h
  | .so _ _ _ _ :: _, ps, h => by simp [pvs] at h
  | .mp _ :: _, ps, h => by simp [pvs] at h
  | .fn _ _ _ :: _, ps, h => by simp [pvs] at h
  | .agg _ :: _, ps, h => by simp [pvs] at h
  | .tup _ :: _, ps, h => by simp [pvs] at h
  | .alt _ _ :: _, ps, h => by simp [pvs] at h
  | .un :: _, ps, h => by simp [pvs] at h
theorem setg_length {α : Type} : ∀ (vs : List α) (o : Nat) (cs : List α), (setg cs o vs).length = cs.length
  | [], _, _ => rfl
  | v :: r, o, cs => by rw [setg, setg_length]; simp
theorem setg_get {α : Type} : ∀ (vs : List α) (o : Nat) (cs : List α) (j : Nat), o + vs.length ≤ cs.length → (setg cs o vs)[j]? = if o ≤ j ∧ j < o + vs.length then vs[j - o]? else cs[j]?
  | [], o, cs, j, hl => by simp only [setg, List.length_nil]; rw [if_neg (by omega)]
  | v :: r, o, cs, j, hl => by
    simp only [List.length_cons] at hl ⊢
    rw [setg, setg_get r (o + 1) _ j (by simp; omega)]
    by_cases h1 : j = o
    · subst h1
      rw [if_neg (by omega), if_pos (by omega)]
      simp [List.getElem?_set]; omega
    · by_cases h2 : o + 1 ≤ j ∧ j < o + 1 + r.length
      · rw [if_pos h2, if_pos (by omega), show j - o = (j - (o + 1)) + 1 by omega]; simp
      · rw [if_neg h2, if_neg (by omega), List.getElem?_set_ne (by omega)]
theorem setl_setg : ∀ (vs : List AV) (o : Nat) (cs : List AV), setl cs o vs = setg cs o vs
  | [], _, _ => rfl
  | v :: r, o, cs => by rw [setl, setg, setl_setg]
theorem P2.setg {α β : Type} {R : α → β → Prop} : ∀ {vs : List α} {us : List β} (o : Nat) {xs : List α} {ys : List β}, P2 R xs ys → P2 R vs us → P2 R (setg xs o vs) (setg ys o us)
  | [], us, o, xs, ys, h, h' => by
    have : us = [] := List.length_eq_zero_iff.1 h'.1.symm
    subst this; exact h
  | v :: r, us, o, xs, ys, h, h' => by
    cases us with
    | nil => have := h'.1; simp at this
    | cons u us =>
      exact P2.setg (o + 1) (h.set o (h'.2 0 v u rfl rfl)) ⟨by have := h'.1; simpa using this, fun j a b ha hb => h'.2 (j + 1) a b (by simpa using ha) (by simpa using hb)⟩
theorem any_un {cs : List SV} {ccs : List AV} (hp : P2 (RS w n) cs ccs) (hu : cs.any SV.isUn = false) : ccs.any AV.isUn = false := by
  rw [List.any_eq_false] at hu ⊢
  intro a ha
  obtain ⟨j, hj⟩ := List.mem_iff_getElem?.1 ha
  have hj' : j < cs.length := by rw [hp.1]; exact (List.getElem?_eq_some_iff.1 hj).1
  have h1 := hp.2 j cs[j] a (List.getElem?_eq_getElem hj') hj
  have h2 := hu cs[j] (List.getElem_mem hj')
  rw [h1.ne_un (by simpa using h2)]; simp
theorem bAt_eq {id : Nat} {b : B2} (hb : bAt h id = some b) : h[id]? = some (some b) := by
  unfold bAt at hb
  split at hb
  · rename_i h1; cases hb; exact h1
  · cases hb
/-- a block, with a place -/
theorem RH.at (r : RH w h ch) {id c : Nat} {b : B2} (hb : bAt h id = some b) (hc : w.ρ id = some c) : ∃ cb, ch.blk c = some cb ∧ RB w h.length c b cb := r.blk id b c (bAt_eq hb) hc

/-! ### reading -/
theorem ldc_ok {cs : List SV} {ccs : List AV} {ro : Bool} {c off : Nat} {sz : Option Nat} {v : SV} (hb : ch.blk c = some (.row ccs ro)) (hp : P2 (RS w n) cs ccs) (hv : ldc sz off cs = some v) :
    ∃ cv, aload sz (.ptr c off) ch = some (cv, ch) ∧ RS w n v cv := by
  unfold ldc at hv
  cases sz with
  | none =>
    simp only at hv
    split at hv
    · rename_i x hx
      split at hv
      · cases hv
      · rename_i hu
        cases hv
        obtain ⟨a, ha, hr⟩ := hp.get hx
        have hu := hr.ne_un (by simpa using hu)
        exact ⟨a, by simp [aload, AH.rd, hb, ha, hu], hr⟩
    · cases hv
  | some m =>
    simp only at hv
    split at hv
    · rename_i h1
      cases hv
      have h2 := any_un ((hp.drop off).take m) h1.2
      refine ⟨.agg ((ccs.drop off).take m), ?_, .agg ((hp.drop off).take m).1 ((hp.drop off).take m).2⟩
      simp only [aload, AH.rdn, hb]
      rw [if_pos ⟨by rw [← hp.1]; exact h1.1, h2⟩]
      rfl
    · cases hv
theorem any_p (l : List PV) : (l.map SV.p).any SV.isUn = false := by
  rw [List.any_eq_false]; intro x hx; obtain ⟨a, _, rfl⟩ := List.mem_map.1 hx; simp [SV.isUn]
theorem ldp_ldc {sz : Option Nat} {t : Nat} {cs : List PV} {v : SV} (h : ldp sz t cs = some v) : ldc sz t (cs.map .p) = some v := by
  unfold ldp at h
  unfold ldc
  cases sz with
  | none =>
    simp only [Option.map_eq_some_iff] at h
    obtain ⟨a, ha, rfl⟩ := h
    simp [ha, SV.isUn]
  | some m =>
    simp only at h ⊢
    split at h
    · rename_i h1
      cases h
      rw [if_pos ⟨by simpa using h1, by rw [← List.map_drop, ← List.map_take]; exact any_p _⟩, ← List.map_drop, ← List.map_take]
    · cases h
/-- cells that lie in a row from a place on -/
theorem ldp_ok {cs : List PV} {row : List AV} {ro : Bool} {c o t : Nat} {sz : Option Nat} {v : SV} (hb : ch.blk c = some (.row row ro)) (hl : o + cs.length ≤ row.length)
    (hp : ∀ (j : Nat) x a, cs[j]? = some x → row[o + j]? = some a → RP w.fro x a) (hv : ldp sz t cs = some v) : ∃ cv, aload sz (.ptr c (o + t)) ch = some (cv, ch) ∧ RS w n v cv := by
  have hP : P2 (RS w n) (cs.map .p) ((row.drop o).take cs.length) := by
    refine ⟨by simp; omega, fun j x a hx ha => ?_⟩
    rw [List.getElem?_map] at hx
    rw [List.getElem?_take] at ha
    split at ha
    · rw [List.getElem?_drop] at ha
      cases hc : cs[j]? with
      | none => simp [hc] at hx
      | some y => simp [hc] at hx; subst hx; exact .p (hp j y a hc ha)
    · cases ha
  obtain ⟨cv, h1, h2⟩ := ldc_ok (ch := ⟨ch.next, fun _ => some (.row ((row.drop o).take cs.length) true)⟩) (c := c) rfl hP (ldp_ldc hv)
  refine ⟨cv, ?_, h2⟩
  unfold ldp at hv
  cases sz with
  | none =>
    simp only [Option.map_eq_some_iff] at hv
    obtain ⟨a, ha, rfl⟩ := hv
    have htl := (List.getElem?_eq_some_iff.1 ha).1
    simp only [aload, AH.rd, Option.map_eq_some_iff] at h1 ⊢
    rw [List.getElem?_take, if_pos htl, List.getElem?_drop] at h1
    rw [hb]
    simpa using h1
  | some m =>
    simp only at hv
    split at hv
    · rename_i hm
      cases hv
      simp only [aload, AH.rdn, Option.map_eq_some_iff] at h1 ⊢
      rw [hb]
      obtain ⟨x, h3, h4⟩ := h1
      split at h3
      · rename_i h5
        cases h3
        have e : List.take m (List.drop t (List.take cs.length (List.drop o row))) = List.take m (List.drop (o + t) row) := by
          rw [List.drop_take, List.take_take, List.drop_drop, Nat.min_eq_left (by omega)]
        rw [e] at h4 h5
        cases h4
        refine ⟨_, ?_, rfl⟩
        simp only
        rw [if_pos ⟨by omega, h5.2⟩]
      · cases h3
    · cases hv
theorem ld2_ok (r : RH w h ch) {a : SV} {ca : AV} (ha : RS w h.length a ca) {sz : Option Nat} {v : SV} (hv : ld2 sz a h = some v) : ∃ cv, aload sz ca ch = some (cv, ch) ∧ RS w h.length v cv := by
  unfold ld2 at hv
  split at hv
  · split at hv
    · rename_i hb
      cases ha with
      | ptr hi hc =>
        obtain ⟨cb, h1, h2⟩ := r.at hb hc
        cases h2 with
        | obj hl hp => exact ldc_ok h1 hp hv
    · cases hv
  · rename_i esz0 id0 j0 t0
    split at hv
    · rename_i hb
      split at hv
      · rename_i he
        subst he
        split at hv
        · rename_i el hel
          cases ha with
          | ep hi hc =>
            obtain ⟨cb, h1, h2⟩ := r.at hb hc
            cases h2 with
            | arr hl he hels =>
              have hsz := hels.2.1 _ _ hel
              have hj := (List.getElem?_eq_some_iff.1 hel).1
              have := Nat.mul_le_mul_right el.length (Nat.succ_le_of_lt hj)
              rw [hsz] at this
              rw [Nat.succ_mul] at this
              refine ldp_ok h1 (by rw [hsz]; have := hels.1; omega) (fun t x a hx ha => hels.2.2 _ _ t x a hel hx (by simpa using ha)) hv
        · cases hv
      · cases hv
    · cases hv
  · cases ha with
    | p ha =>
      cases ha with
      | fp hf hr hp =>
        obtain ⟨_, ro, hb⟩ := r.fro _ _ hf
        exact ldp_ok hb hr hp hv
  · cases hv
theorem chk2_ok {a v : SV} {ca : AV} (ha : RS w n a ca) (hv : chk2 a = some v) : ∃ cv, achk ca = some cv ∧ RS w n v cv := by
  unfold chk2 at hv
  split at hv <;> cases hv
  · cases ha with | ptr hi hc => exact ⟨_, rfl, .ptr hi hc⟩
  · cases ha with | ep hi hc => exact ⟨_, rfl, .ep hi hc⟩
  · cases ha with | p ha => cases ha with | fp h1 h2 h3 => exact ⟨_, rfl, .p (.fp h1 h2 h3)⟩
  · cases ha with | fn h1 h2 h3 h4 => exact ⟨_, rfl, .fn h1 h2 h3 h4⟩
theorem fa2_ok {a v : SV} {ca : AV} {off : Nat} (ha : RS w n a ca) (hv : fa2 off a = some v) : ∃ id o, ca = .ptr id o ∧ RS w n v (.ptr id (o + off)) := by
  unfold fa2 at hv
  split at hv <;> cases hv
  · cases ha with | ptr hi hc => exact ⟨_, _, rfl, .ptr hi hc⟩
  · cases ha with | ep hi hc => exact ⟨_, _, rfl, by rw [Nat.add_assoc]; exact .ep hi hc⟩
  · cases ha with | p ha => cases ha with | fp h1 h2 h3 => exact ⟨_, _, rfl, by rw [Nat.add_assoc]; exact .p (.fp h1 h2 h3)⟩
theorem ia2_ok {x ix v : SV} {cx cix : AV} {esz : Nat} (hx : RS w n x cx) (hix : RS w n ix cix) (hv : ia2 esz x ix = some v) : ∃ cv, aidx esz cx cix = some cv ∧ RS w n v cv := by
  unfold ia2 at hv
  split at hv
  · rename_i esz' id off len cap kk j
    split at hv
    · rename_i h1
      obtain ⟨rfl, h1, h2⟩ := h1
      cases hv
      cases hix with | p hix => cases hix with | i =>
      cases hx with
      | sl hi hc he hcap hl hlo hr =>
        refine ⟨_, by simp only [aidx]; rw [if_pos ⟨h1, h2⟩], ?_⟩
        have := RS.ep (w := w) (n := n) (esz := esz') (j := off + j.toNat) (t := 0) hi hc
        rw [Nat.add_mul] at this
        simpa using this
      | slv => simp at h2; omega
    · cases hv
  · rename_i esz' id off len kk j
    split at hv
    · rename_i h1
      obtain ⟨rfl, h1, h2⟩ := h1
      cases hv
      cases hix with | p hix => cases hix with | i =>
      cases hx with
      | so hi hc hl => exact ⟨_, by simp only [aidx]; rw [if_pos ⟨h1, h2⟩], .ptr hi hc⟩
    · cases hv
  · rename_i esz' els kk j
    split at hv
    · rename_i h1
      obtain ⟨rfl, h1⟩ := h1
      simp only [Option.map_eq_some_iff] at hv
      obtain ⟨el, hel, rfl⟩ := hv
      cases hix with | p hix => cases hix with | i =>
      cases hx with | p hx =>
      cases hx with
      | fz0 => simp at hel
      | fz1 => simp at hel
      | fz hf he hl hc hlo hr hz hp =>
        have hj := (List.getElem?_eq_some_iff.1 hel).1
        refine ⟨_, by simp only [aidx]; rw [if_pos ⟨h1, by omega⟩], ?_⟩
        have hsz := hz _ _ hel
        have hm := Nat.mul_le_mul_right esz' (Nat.succ_le_of_lt hj)
        refine .p ?_
        have := RP.fp (fro := w.fro) (cs := el) (t := 0) hf (o := _) ?_ (fun k c a h3 h4 => hp _ _ k c a hel h3 h4)
        · simpa using this
        · rw [Nat.succ_mul] at hm
          rw [hl] at hm
          rw [hsz]
          omega
    · cases hv
  · cases hv
theorem iaa2_ok {x ix v : SV} {cx cix : AV} {m esz : Nat} (hx : RS w n x cx) (hix : RS w n ix cix) (hv : iaa2 m esz x ix = some v) : ∃ cv, aidxa m esz cx cix = some cv ∧ RS w n v cv := by
  unfold iaa2 at hv
  split at hv
  · split at hv
    · rename_i h1
      cases hix with | p hix => cases hix with | i =>
      obtain ⟨id, o, rfl, h2⟩ := fa2_ok hx hv
      exact ⟨_, by simp only [aidxa]; rw [if_pos h1], h2⟩
    · cases hv
  · cases hv
theorem ix2_ok {x ix v : SV} {cx cix : AV} {m esz : Nat} {ag : Bool} (hx : RS w n x cx) (hix : RS w n ix cix) (hv : ix2 m esz ag x ix = some v) : ∃ cv, aidxv m esz ag cx cix = some cv ∧ RS w n v cv := by
  unfold ix2 at hv
  split at hv
  · cases hix with | p hix => cases hix with | i =>
    cases hx with
    | agg h1 h2 =>
      have hp : P2 (RS w n) _ _ := ⟨h1, h2⟩
      split at hv
      · rename_i hj
        simp only [aidxv]
        rw [if_pos hj]
        split at hv
        · rename_i hag
          split at hv
          · rename_i hlen
            cases hv
            rw [if_pos hag, if_pos (by rw [← hp.1]; exact hlen)]
            exact ⟨_, rfl, .agg ((hp.drop _).take _).1 ((hp.drop _).take _).2⟩
          · cases hv
        · rename_i hag
          rw [if_neg hag]
          exact hp.get hv
      · cases hv
  · cases hv
theorem ixs2_ok {x ix v : SV} {cx cix : AV} (hx : RS w n x cx) (hix : RS w n ix cix) (hv : ixs2 x ix = some v) : ∃ cv, aidxs cx cix = some cv ∧ RS w n v cv := by
  unfold ixs2 at hv
  split at hv
  · cases hix with | p hix => cases hix with | i =>
    cases hx with | p hx => cases hx with | s =>
    split at hv
    · rename_i h1
      simp only [Option.map_eq_some_iff] at hv
      obtain ⟨c, hc, rfl⟩ := hv
      exact ⟨.i .u8 c.toNat, by simp only [aidxs]; rw [if_pos h1, hc]; rfl, .p (.i _ _)⟩
    · cases hv
  · cases hv
theorem fld2_ok {x v : SV} {cx : AV} {off : Nat} {sz : Option Nat} (hx : RS w n x cx) (hv : fld2 off sz x = some v) : ∃ cv, afield off sz cx = some cv ∧ RS w n v cv := by
  unfold fld2 at hv
  split at hv
  · cases hx with
    | agg h1 h2 =>
      have hp : P2 (RS w n) _ _ := ⟨h1, h2⟩
      exact hp.get hv
  · cases hx with
    | agg h1 h2 =>
      have hp : P2 (RS w n) _ _ := ⟨h1, h2⟩
      split at hv
      · rename_i hl
        cases hv
        simp only [afield]
        rw [if_pos (by rw [← hp.1]; exact hl)]
        exact ⟨_, rfl, .agg ((hp.drop _).take _).1 ((hp.drop _).take _).2⟩
      · cases hv
  · cases hv
theorem ext2_ok {x v : SV} {cx : AV} {j : Nat} (hx : RS w n x cx) (hv : ext2 j x = some v) : ∃ cv, aext j cx = some cv ∧ RS w n v cv := by
  unfold ext2 at hv
  split at hv
  · cases hx with
    | tup h1 h2 =>
      have hp : P2 (RS w n) _ _ := ⟨h1, h2⟩
      exact hp.get hv
  · cases hv
def OR (w : Wd) (n : Nat) : Option SV → Option AV → Prop
  | none, none => True
  | some v, some a => RS w n v a
  | _, _ => False
theorem bnd2_ok {v : Option SV} {cv : Option AV} {d m r : Nat} (hv : OR w n v cv) (hb : bnd2 v d m = some r) : bnd cv d m = some r := by
  cases v with
  | none => cases cv with
    | none => exact hb
    | some => exact hv.elim
  | some v => cases cv with
    | none => exact hv.elim
    | some a =>
      simp only [OR] at hv
      unfold bnd2 at hb
      split at hb
      · rename_i hh; cases hh
      · rename_i hh; cases hh
        cases hv with | p hv => cases hv with | i => exact hb
      · cases hb
theorem bnd2_le {v : Option SV} {d m r : Nat} (hb : bnd2 v d m = some r) (hd : d ≤ m) : r ≤ m := by
  unfold bnd2 at hb
  split at hb
  · cases hb; exact hd
  · split at hb
    · cases hb; omega
    · cases hb
  · cases hb
/-- a bound that is let in below one limit is let in below a greater one -/
theorem bnd_mono {v : Option AV} {d m m' r : Nat} (hm : m ≤ m') (hb : bnd v d m = some r) : bnd v d m' = some r := by
  unfold bnd at hb ⊢
  split at hb
  · exact hb
  · rename_i j
    split at hb
    · rename_i h1
      cases hb
      rw [if_pos (by omega)]
    · cases hb
  · cases hb
theorem or_map {e : SE} {ce : Env} (he : RE w n e ce) (x : Option AX) : OR w n (x.map (evs e)) (x.map (ev ce)) := by
  cases x with
  | none => trivial
  | some x => exact evs_rs he x
theorem or_some {a : Option SV} {b : Option AV} (h : OR w n a b) : a.isSome = b.isSome := by
  cases a <;> cases b <;> first | rfl | exact h.elim
/-- the top of a slice: where none is told it is the slice's own, which is as great as what is known of it, or greater -/
theorem top_ok {mx : Option SV} {cmx : Option AV} {top ctop m : Nat} (hx : OR w n mx cmx) (hle : top ≤ ctop) (hm : bnd2 mx top top = some m) : ∃ cm, bnd cmx ctop ctop = some cm ∧ m ≤ cm ∧ m ≤ top ∧ (cmx.isSome = true → cm = m) ∧ cm ≤ ctop := by
  cases mx with
  | none =>
    cases cmx with
    | none => cases hm; exact ⟨ctop, rfl, hle, Nat.le_refl _, fun h => (by cases h), Nat.le_refl _⟩
    | some => exact hx.elim
  | some v =>
    have h1 := bnd_mono hle (bnd2_ok hx hm)
    have h2 := bnd2_le hm (Nat.le_refl _)
    cases cmx with
    | none => exact hx.elim
    | some a =>
      refine ⟨m, ?_, Nat.le_refl _, h2, fun _ => rfl, by omega⟩
      unfold bnd at h1 ⊢
      split at h1
      · rename_i hh; cases hh
      · rename_i hh; cases hh; exact h1
      · cases h1
theorem bnd2_some {v : Option SV} {d m r : Nat} (hb : bnd2 v d m = some r) (hv : v ≠ none) : r ≤ m := by
  cases v with
  | none => exact (hv rfl).elim
  | some y =>
    unfold bnd2 at hb
    split at hb
    · rename_i e; cases e
    · split at hb
      · cases hb; omega
      · cases hb
    · cases hb
theorem slc2_ok {esz : Nat} {x v : SV} {cx : AV} {lo hi mx : Option SV} {clo chi cmx : Option AV} (hx : RS w n x cx) (hlo : OR w n lo clo) (hhi : OR w n hi chi) (hmx : OR w n mx cmx) (hv : slc2 esz x lo hi mx = some v) :
    ∃ cv, aslice esz cx clo chi cmx = some cv ∧ RS w n v cv := by
  unfold slc2 at hv
  split at hv
  · cases hv
  rename_i hno
  have hno : hi = none → mx = none := fun e => by
    subst e
    cases mx with
    | none => rfl
    | some => simp at hno
  split at hv
  · cases hx with | p hx => cases hx with | nils =>
    split at hv
    · rename_i a b c h1 h2 h3
      cases hv
      exact ⟨.nils, by simp only [aslice, bnd2_ok hmx h1, bnd2_ok hhi h2, bnd2_ok hlo h3], .p .nils⟩
    · cases hv
  · rename_i esz' id off len cap
    split at hv
    · rename_i he
      subst he
      split at hv
      · cases hv
      · rename_i m hm
        split at hv
        · cases hv
        · rename_i h' hh
          split at hv
          · cases hv
          · rename_i l hl
            cases hv
            cases hx with
            | @sl _ _ _ _ _ c ccap lo' hi' hc he hcap hlen hlo' hr =>
              have hdl : cap.getD len ≤ ccap ∧ len ≤ cap.getD len := by
                cases cap with
                | none => exact ⟨hlen, Nat.le_refl _⟩
                | some k => exact ⟨(hcap k rfl).2, (hcap k rfl).1⟩
              obtain ⟨cm, h1, h2, h3, h4, h5⟩ := top_ok hmx hdl.1 hm
              have hh1 : h' ≤ m := by
                by_cases e : hi = none
                · subst e
                  obtain rfl := hno rfl
                  cases hm; cases hh
                  exact hdl.2
                · exact bnd2_some hh e
              have hl1 : l ≤ h' := bnd2_le hl (Nat.zero_le _)
              refine ⟨_, by simp only [aslice]; rw [if_pos hlo', h1]; simp only [bnd_mono h2 (bnd2_ok hhi hh), bnd2_ok hlo hl]; rfl, ?_⟩
              rw [← Nat.add_mul]
              have hmul := Nat.mul_le_mul_right esz' (show l + (cm - l) ≤ ccap by omega)
              rw [Nat.add_mul] at hmul
              refine .sl hi' hc he (fun k hk => ?_) (by omega) ?_ ?_
              · cases hk; omega
              · split
                · exact .inl rfl
                · exact hlo'
              · rw [Nat.add_mul]; omega
            | slv hi' hc hcap =>
              have e0 : ∀ {cap : Option Nat}, (∀ k, cap = some k → k = 0) → cap.getD 0 = 0 := fun {cap} hcap => by
                cases cap with
                | none => rfl
                | some k => exact hcap k rfl
              rw [e0 hcap] at hm
              have hm0 := bnd2_le hm (Nat.le_refl _)
              obtain rfl : m = 0 := by omega
              have hh0 := bnd2_le hh (Nat.le_refl _)
              obtain rfl : h' = 0 := by omega
              have hl0 := bnd2_le hl (Nat.le_refl _)
              obtain rfl : l = 0 := by omega
              exact ⟨.nils, by simp only [aslice, bnd2_ok hmx hm, bnd2_ok hhi hh, bnd2_ok hlo hl], .slv hi' hc (by simp)⟩
    · cases hv
  · rename_i esz' els
    split at hv
    · rename_i he
      subst he
      split at hv
      · cases hv
      · rename_i m hm
        split at hv
        · cases hv
        · rename_i h' hh
          split at hv
          · cases hv
          · rename_i l hl
            cases hv
            cases hx with | p hx =>
            cases hx with
            | fz0 =>
              simp only [List.length_nil] at hm hh
              have hm0 := bnd2_le hm (Nat.le_refl _)
              obtain rfl : m = 0 := by omega
              have hh0 := bnd2_le hh (Nat.le_refl _)
              obtain rfl : h' = 0 := by omega
              have hl0 := bnd2_le hl (Nat.le_refl _)
              obtain rfl : l = 0 := by omega
              exact ⟨.nils, by simp only [aslice, bnd2_ok hmx hm, bnd2_ok hhi hh, bnd2_ok hlo hl], .p (by simpa using RP.fz0 _)⟩
            | fz1 =>
              simp only [List.length_nil] at hm hh
              have hm0 := bnd2_le hm (Nat.le_refl _)
              obtain rfl : m = 0 := by omega
              have hh0 := bnd2_le hh (Nat.le_refl _)
              obtain rfl : h' = 0 := by omega
              have hl0 := bnd2_le hl (Nat.le_refl _)
              obtain rfl : l = 0 := by omega
              exact ⟨.es, by simp only [aslice, bnd2_ok hmx hm, bnd2_ok hhi hh, bnd2_ok hlo hl], .p (by simpa using RP.fz1 _)⟩
            | @fz _ _ id off len cap lo' row hf he hlen hc hlo' hr hz hp =>
              obtain ⟨cm, h1, h2, h3, h4, h5⟩ := top_ok hmx (show els.length ≤ cap by omega) hm
              have hh1 : h' ≤ m := by
                by_cases e : hi = none
                · subst e
                  obtain rfl := hno rfl
                  cases hm; cases hh
                  exact Nat.le_refl _
                · exact bnd2_some hh e
              have hl1 : l ≤ h' := bnd2_le hl (Nat.zero_le _)
              rw [hlen] at hh
              refine ⟨_, by simp only [aslice]; rw [if_pos hlo', h1]; simp only [bnd_mono h2 (bnd2_ok hhi hh), bnd2_ok hlo hl]; rfl, .p ?_⟩
              have hmul := Nat.mul_le_mul_right esz' (show l + (h' - l) ≤ len by omega)
              rw [Nat.add_mul] at hmul
              refine .fz hf he (by simp; omega) (by omega) ?_ (by omega) (fun j el hj => ?_) (fun j el t c a hj ht ha => ?_)
              · split
                · exact .inl rfl
                · exact hlo'
              · rw [List.getElem?_drop, List.getElem?_take] at hj
                split at hj
                · exact hz _ _ hj
                · cases hj
              · rw [List.getElem?_drop, List.getElem?_take] at hj
                split at hj
                · refine hp _ _ t c a hj ht ?_
                  rw [Nat.add_mul, ← Nat.add_assoc]
                  exact ha
                · cases hj
    · cases hv
  · cases hv
theorem sls2_ok {x v : SV} {cx : AV} {lo hi : Option SV} {clo chi : Option AV} (hx : RS w n x cx) (hlo : OR w n lo clo) (hhi : OR w n hi chi) (hv : sls2 x lo hi = some v) :
    ∃ cv, astrcut cx clo chi = some cv ∧ RS w n v cv := by
  unfold sls2 at hv
  split at hv
  · cases hx with | p hx => cases hx with | s =>
    split at hv
    · cases hv
    · rename_i h' hh
      split at hv
      · cases hv
      · rename_i l hl
        cases hv
        exact ⟨_, by simp only [astrcut, bnd2_ok hhi hh, bnd2_ok hlo hl], .p (.s _)⟩
  · cases hv
theorem sla2_ok {m esz : Nat} {x v : SV} {cx : AV} {lo hi : Option SV} {clo chi : Option AV} (hx : RS w n x cx) (hlo : OR w n lo clo) (hhi : OR w n hi chi) (hv : sla2 m esz x lo hi = some v) :
    ∃ cv, aarrcut m esz cx clo chi = some cv ∧ RS w n v cv := by
  unfold sla2 at hv
  split at hv
  · cases hx with | ptr hi' hc =>
    split at hv
    · cases hv
    · rename_i h' hh
      split at hv
      · cases hv
      · rename_i l hl
        cases hv
        have := bnd2_le hh (Nat.le_refl _)
        exact ⟨_, by simp only [aarrcut, bnd2_ok hhi hh, bnd2_ok hlo hl]; rfl, .so hi' hc (by omega)⟩
  · cases hv
theorem len2_ok (r : RH w h ch) {x v : SV} {cx : AV} {kd : LK} (hx : RS w h.length x cx) (hv : len2 kd x h = some v) : ∃ cv, alen kd cx ch = some cv ∧ RS w h.length v cv := by
  unfold len2 at hv
  split at hv
  · cases hv; cases hx with | p hx => cases hx with | s => exact ⟨_, rfl, .p (.i _ _)⟩
  · cases hv; cases hx with | p hx => cases hx with | nils => exact ⟨_, rfl, .p (.i _ _)⟩
  · cases hv
    cases hx with
    | sl => exact ⟨_, rfl, .p (.i _ _)⟩
    | slv => exact ⟨_, rfl, .p (.i _ _)⟩
  · cases hv; cases hx with | so => exact ⟨_, rfl, .p (.i _ _)⟩
  · cases hv
    cases hx with | p hx =>
    cases hx with
    | fz0 => exact ⟨_, rfl, .p (.i _ _)⟩
    | fz1 => exact ⟨_, rfl, .p (.i _ _)⟩
    | fz hf he hl => exact ⟨_, rfl, by rw [hl]; exact .p (.i _ _)⟩
  · cases hv; cases hx with | p hx => cases hx with | nilm => exact ⟨_, rfl, .p (.i _ _)⟩
  · split at hv
    · rename_i hb
      cases hv
      cases hx with
      | mp hi hc =>
        obtain ⟨cb, h1, h2⟩ := r.at hb hc
        cases h2 with
        | map hp _ => exact ⟨_, by simp only [alen, h1]; rfl, by rw [hp.1]; exact .p (.i _ _)⟩
    · cases hv
  · cases hv
/-- the elements that are shown, as cells -/
theorem show2_ok (r : RH w h ch) {esz : Nat} {x : SV} {cx : AV} {els : List (List PV)} (he : 0 < esz) (hx : RS w h.length x cx) (hv : show2 esz x h = some els) :
    ∃ row, ashow esz cx ch = some (els.length, row) ∧ row.length = els.length * esz ∧ ElsR w.fro esz els row 0 ∧ row.any AV.isUn = false := by
  have hun : ∀ {els : List (List PV)} {row : List AV}, row.length = els.length * esz → ElsR w.fro esz els row 0 → row.any AV.isUn = false := fun {els row} hl hr => by
    rw [List.any_eq_false]
    intro a ha
    obtain ⟨i, hi⟩ := List.mem_iff_getElem?.1 ha
    have hil := (List.getElem?_eq_some_iff.1 hi).1
    have hj : i / esz < els.length := by rw [Nat.div_lt_iff_lt_mul he]; omega
    have hel := List.getElem?_eq_getElem hj
    have hsz := hr.2.1 _ _ hel
    have ht : i % esz < (els[i / esz]).length := by rw [hsz]; exact Nat.mod_lt _ he
    have := hr.2.2 _ _ (i % esz) _ a hel (List.getElem?_eq_getElem ht) (by
      have : i / esz * esz + i % esz = i := by rw [Nat.mul_comm]; exact Nat.div_add_mod i esz
      simp only [Nat.zero_add, this]; exact hi)
    rw [this.ne_un]; simp
  have hcut : ∀ {els : List (List PV)} {row : List AV} {off : Nat}, ElsR w.fro esz els row off → (((row.drop off).take (els.length * esz)).length = els.length * esz ∧ ElsR w.fro esz els ((row.drop off).take (els.length * esz)) 0) := fun {els row off} hr => by
    have h0 := hr.1
    refine ⟨by simp; omega, by simp; omega, hr.2.1, fun j el t c a h1 h2 h3 => ?_⟩
    rw [List.getElem?_take] at h3
    split at h3
    · rw [List.getElem?_drop] at h3
      exact hr.2.2 j el t c a h1 h2 (by rw [← h3]; congr 1; omega)
    · cases h3
  unfold show2 at hv
  split at hv
  · cases hv; cases hx with | p hx => cases hx with | nils => exact ⟨[], rfl, by simp, ⟨by simp, fun j el h => by simp at h, fun j el t c a h => by simp at h⟩, rfl⟩
  · rename_i esz' id off len cap
    split at hv
    · rename_i e' els0 hb
      split at hv
      · rename_i hcond
        obtain ⟨rfl, hez, hlen⟩ := hcond
        subst hez
        cases hv
        cases hx with
        | @sl _ _ _ _ _ c ccap lo hi hc _ hcap hl hlo hr =>
          obtain ⟨cb, h1, h2⟩ := r.at hb hc
          cases h2 with
          | @arr _ _ ccs hl' he hels =>
            have hels' : ElsR w.fro esz' ((els0.drop off).take len) ccs (off * esz') := by
              have hm := Nat.mul_le_mul_right esz' hlen
              rw [Nat.add_mul] at hm
              have h0 := hels.1
              refine ⟨?_, fun j el hj => ?_, fun j el t c a hj ht ha => ?_⟩
              · have : ((els0.drop off).take len).length = len := by simp; omega
                rw [this]; omega
              · rw [List.getElem?_take] at hj
                split at hj
                · rw [List.getElem?_drop] at hj; exact hels.2.1 _ _ hj
                · cases hj
              · rw [List.getElem?_take] at hj
                split at hj
                · rw [List.getElem?_drop] at hj
                  refine hels.2.2 _ el t c a hj ht ?_
                  rw [← ha, Nat.add_mul]; congr 1; omega
                · cases hj
            have hll : ((els0.drop off).take len).length = len := by simp; omega
            obtain ⟨h3, h4⟩ := hcut hels'
            have h5 := hun h3 h4
            rw [hll] at h3 h4 h5 ⊢
            refine ⟨_, ?_, h3, h4, h5⟩
            simp only [ashow, AH.rdn, h1]
            have h6 := hels'.1
            rw [hll] at h6
            rw [if_pos ⟨h6, h5⟩]
            rfl
        | slv =>
          have : ((‹List (List PV)›.drop ‹Nat›).take 0) = ([] : List (List PV)) := by simp
          exact ⟨[], by simp [ashow], by simp, ⟨by simp, fun j el h => by simp at h, fun j el t c a h => by simp at h⟩, rfl⟩
      · cases hv
    · cases hv
  · rename_i esz' els
    split at hv
    · rename_i hez
      subst hez
      cases hv
      cases hx with | p hx =>
      cases hx with
      | fz0 => exact ⟨[], rfl, by simp, ⟨by simp, fun j el h => by simp at h, fun j el t c a h => by simp at h⟩, rfl⟩
      | fz1 => exact ⟨[], rfl, by simp, ⟨by simp, fun j el h => by simp at h, fun j el t c a h => by simp at h⟩, rfl⟩
      | @fz _ _ id off len cap lo row hf _ hl hc hlo hr hz hp =>
        subst hl
        obtain ⟨_, ro, hb⟩ := r.fro _ _ hf
        have hels' : ElsR w.fro esz' els row off := ⟨hr, hz, hp⟩
        obtain ⟨h3, h4⟩ := hcut hels'
        have h5 := hun h3 h4
        refine ⟨_, ?_, h3, h4, h5⟩
        simp only [ashow, AH.rdn, hb]
        rw [if_pos ⟨hr, h5⟩]
        rfl
    · cases hv
  · split at hv
    · rename_i h1
      subst h1
      cases hv
      cases hx with | p hx => cases hx with | s =>
      rename_i l
      have h4 : ElsR w.fro 1 (l.map fun c => [PV.i .u8 c.toNat]) (l.map fun c => AV.i .u8 c.toNat) 0 := by
        refine ⟨by simp, fun j el hj => ?_, fun j el t c a hj ht ha => ?_⟩
        · rw [List.getElem?_map] at hj
          cases hl : l[j]? with
          | none => simp [hl] at hj
          | some x => simp [hl] at hj; subst hj; rfl
        · rw [List.getElem?_map] at hj
          cases hl : l[j]? with
          | none => simp [hl] at hj
          | some x =>
            simp [hl] at hj; subst hj
            cases t with
            | zero => simp [hl] at ht ha; subst ht; subst ha; exact .i _ _
            | succ t => simp at ht
      refine ⟨l.map fun c => AV.i .u8 c.toNat, by simp [ashow], by simp, h4, hun (by simp) h4⟩
    · cases hv
  · cases hv
end
end Go.Proofs.Ytadbipeachcekaa.Ab
/- The second machine: operations that turn memory. -/
namespace Go.Proofs.Ytadbipeachcekaa.Ab
open Go
set_option linter.unusedVariables false
/-- an operation of the first machine that does what one of the second says -/
def Ok2 (k : Nat) (w : Wd) (h : SH) (ch : AH) (v : SV) (h' : SH) (r : Option (AV × AH)) : Prop :=
  ∃ cv ch' w', r = some (cv, ch') ∧ RH w' h' ch' ∧ RS w' h'.length v cv ∧ Le h.length w w' ∧ h.length ≤ h'.length ∧ Fr k w h ch w' h' ch'
section
variable {k n : Nat} {w : Wd} {h : SH} {ch : AH}
theorem Ok2.pure (r : RH w h ch) {v : SV} {cv : AV} {o : Option (AV × AH)} (ho : o = some (cv, ch)) (hv : RS w h.length v cv) : Ok2 k w h ch v h o :=
  ⟨cv, ch, w, ho, r, hv, .refl _ _, Nat.le_refl _, .refl _ _ _ _⟩
theorem Ok2.new (r : RH w h ch) {b : B2} {cb : Blk} {len : Nat} {v : SV} {cv : AV} {o : Option (AV × AH)} (ho : o = some (cv, ch.alloc cb))
    (hb : RB (w.add h.length ch.next len) (h.length + 1) ch.next b cb) (hv : RS (w.add h.length ch.next len) (h.length + 1) v cv) : Ok2 k w h ch v (h ++ [some b]) o := by
  obtain ⟨h1, h2⟩ := r.alloc (k := k) hb
  exact ⟨cv, _, _, ho, h1, by simpa using hv, r.addLe len, by simp, h2⟩
theorem Ok2.put (r : RH w h ch) {id c : Nat} {b b' : B2} {ccs' : Blk} {v : SV} {cv : AV} {o : Option (AV × AH)} (hi : bAt h id = some b) (hc : w.ρ id = some c) (ho : o = some (cv, ch.set c (some ccs'))) (hb : RB w h.length c b' ccs') (hv : RS w h.length v cv) :
    Ok2 k w h ch v (h.set id (some b')) o := by
  obtain ⟨h1, h2⟩ := r.set (k := k) (bAt_eq hi) hc hb
  exact ⟨cv, _, w, ho, h1, by simpa using hv, .refl _ _, by simp, h2⟩
theorem add_ρ : (w.add h.length ch.next n).ρ h.length = some ch.next := up_same _ _ _
theorem add_rl : (w.add h.length ch.next n).rl ch.next = n := up_same _ _ _
theorem rs_unit {n : Nat} : RS w n (.tup []) (.tup []) := .tup rfl fun j s a h => by simp at h

theorem ElsR.len {fro : Fro} {esz : Nat} {els : List (List PV)} {row : List AV} (h : ElsR fro esz els row 0) : els.length * esz ≤ row.length := by have := h.1; omega
theorem ElsR.of {fro : Fro} {esz : Nat} {els : List (List PV)} {row : List AV} (h1 : els.length * esz ≤ row.length) (h2 : ∀ (j : Nat) el, els[j]? = some el → el.length = esz)
    (h3 : ∀ (j : Nat) el (t : Nat) c a, els[j]? = some el → el[t]? = some c → t < esz → row[j * esz + t]? = some a → RP fro c a) : ElsR fro esz els row 0 :=
  ⟨by omega, h2, fun j el t c a hj ht ha => h3 j el t c a hj ht (by have := (List.getElem?_eq_some_iff.1 ht).1; rw [h2 j el hj] at this; exact this) (by simpa using ha)⟩
theorem ElsR.at {fro : Fro} {esz : Nat} {els : List (List PV)} {row : List AV} (h : ElsR fro esz els row 0) {j : Nat} {el : List PV} {t : Nat} {c : PV} {a : AV} (hj : els[j]? = some el) (ht : el[t]? = some c) (ha : row[j * esz + t]? = some a) : RP fro c a :=
  h.2.2 j el t c a hj ht (by simpa using ha)
theorem ElsR.nil {fro : Fro} {esz : Nat} {row : List AV} : ElsR fro esz [] row 0 := .of (by simp) (fun j el h => by simp at h) fun j el t c a h => by simp at h
theorem ElsR.append {fro : Fro} {esz : Nat} {xs ys : List (List PV)} {a b : List AV} (h : ElsR fro esz xs a 0) (h' : ElsR fro esz ys b 0) (hl : a.length = xs.length * esz) : ElsR fro esz (xs ++ ys) (a ++ b) 0 := by
  refine .of (by have := h'.len; simp [Nat.add_mul]; omega) (fun j el hj => ?_) fun j el t c u hj ht hlt hu => ?_
  · by_cases hx : j < xs.length
    · rw [List.getElem?_append_left hx] at hj; exact h.2.1 _ _ hj
    · rw [List.getElem?_append_right (by omega)] at hj; exact h'.2.1 _ _ hj
  · by_cases hx : j < xs.length
    · rw [List.getElem?_append_left hx] at hj
      have := Nat.mul_le_mul_right esz (Nat.succ_le_of_lt hx)
      rw [Nat.succ_mul] at this
      rw [List.getElem?_append_left (by omega)] at hu
      exact h.at hj ht hu
    · rw [List.getElem?_append_right (by omega)] at hj
      have := Nat.mul_le_mul_right esz (show xs.length ≤ j by omega)
      rw [List.getElem?_append_right (by omega), hl] at hu
      refine h'.at hj ht ?_
      rw [← hu, Nat.sub_mul]; congr 1; omega
theorem ElsR.take {fro : Fro} {esz : Nat} {xs : List (List PV)} {a : List AV} (h : ElsR fro esz xs a 0) (n : Nat) : ElsR fro esz (xs.take n) a 0 := by
  refine .of ?_ (fun j el hj => ?_) fun j el t c u hj ht hlt hu => ?_
  · have := h.len
    have : (xs.take n).length * esz ≤ xs.length * esz := Nat.mul_le_mul_right _ (by simp; omega)
    omega
  · rw [List.getElem?_take] at hj
    split at hj
    · exact h.2.1 _ _ hj
    · cases hj
  · rw [List.getElem?_take] at hj
    split at hj
    · exact h.at hj ht hu
    · cases hj
/-- a row of which a part is written anew -/
theorem ElsR.splice {fro : Fro} {esz : Nat} {xs ys : List (List PV)} {a b : List AV} (h : ElsR fro esz xs a 0) (h' : ElsR fro esz ys b 0) (hb : b.length = ys.length * esz) {o : Nat} (ho : o + ys.length ≤ xs.length) (he : 0 < esz) :
    ElsR fro esz (xs.take o ++ ys ++ xs.drop (o + ys.length)) (setl a (o * esz) b) 0 := by
  have hlen := h.len
  have hm := Nat.mul_le_mul_right esz ho
  rw [Nat.add_mul] at hm
  have hsz : ∀ (j : Nat) el, (xs.take o ++ ys ++ xs.drop (o + ys.length))[j]? = some el → (if j < o then xs[j]? else if j < o + ys.length then ys[j - o]? else xs[j]?) = some el := fun j el hj => by
    by_cases h1 : j < o
    · rw [if_pos h1]
      rw [List.append_assoc, List.getElem?_append_left (by simp; omega), List.getElem?_take, if_pos h1] at hj
      exact hj
    · rw [if_neg h1]
      rw [List.append_assoc, List.getElem?_append_right (by simp; omega)] at hj
      have hto : (xs.take o).length = o := by simp; omega
      rw [hto] at hj
      by_cases h2 : j < o + ys.length
      · rw [if_pos h2]
        rw [List.getElem?_append_left (by omega)] at hj
        exact hj
      · rw [if_neg h2]
        rw [List.getElem?_append_right (by omega), List.getElem?_drop] at hj
        rw [← hj]; congr 1; omega
  have hl : (xs.take o ++ ys ++ xs.drop (o + ys.length)).length = xs.length := by simp; omega
  refine .of (by rw [hl, setl_setg, setg_length]; exact hlen) (fun j el hj => ?_) fun j el t c u hj ht hlt hu => ?_
  · have := hsz j el hj
    split at this
    · exact h.2.1 _ _ this
    · split at this
      · exact h'.2.1 _ _ this
      · exact h.2.1 _ _ this
  · have h1 := hsz j el hj
    rw [setl_setg, setg_get _ _ _ _ (by omega)] at hu
    split at h1
    · rename_i h2
      have := Nat.mul_le_mul_right esz (Nat.succ_le_of_lt h2)
      rw [Nat.succ_mul] at this
      rw [if_neg (by omega)] at hu
      exact h.at h1 ht hu
    · rename_i h2
      have hjo := Nat.mul_le_mul_right esz (show o ≤ j by omega)
      split at h1
      · rename_i h3
        have := Nat.mul_le_mul_right esz (show j + 1 ≤ o + ys.length by omega)
        rw [Nat.succ_mul, Nat.add_mul] at this
        rw [if_pos (by omega)] at hu
        refine h'.at h1 ht ?_
        rw [← hu, Nat.sub_mul]; congr 1; omega
      · rename_i h3
        have := Nat.mul_le_mul_right esz (show o + ys.length ≤ j by omega)
        rw [Nat.add_mul] at this
        rw [if_neg (by omega)] at hu
        exact h.at h1 ht hu
/-- an element of which a part is written anew -/
theorem ElsR.setEl {fro : Fro} {esz : Nat} {xs : List (List PV)} {a b : List AV} (h : ElsR fro esz xs a 0) {j : Nat} {el : List PV} (hj : xs[j]? = some el) {ps : List PV} {t : Nat} (hp : P2 (RP fro) ps b) (ht : t + ps.length ≤ el.length) :
    ElsR fro esz (xs.set j (setg el t ps)) (setl a (j * esz + t) b) 0 := by
  have hsz := h.2.1 _ _ hj
  have hjl := (List.getElem?_eq_some_iff.1 hj).1
  have hlen := h.len
  have hm := Nat.mul_le_mul_right esz (Nat.succ_le_of_lt hjl)
  rw [Nat.succ_mul] at hm
  have hbl := hp.1
  refine .of (by rw [List.length_set, setl_setg, setg_length]; exact hlen) (fun i e hi => ?_) fun i e s c u hi hs hlt hu => ?_
  · rw [List.getElem?_set] at hi
    split at hi
    · cases hi; rw [setg_length]; exact hsz
    · exact h.2.1 _ _ hi
  · rw [setl_setg, setg_get _ _ _ _ (by omega)] at hu
    rw [List.getElem?_set] at hi
    split at hi
    · rename_i he
      subst he
      cases hi
      rw [setg_get _ _ _ _ ht] at hs
      split at hs
      · rename_i h1
        rw [if_pos (by omega), show j * esz + s - (j * esz + t) = s - t by omega] at hu
        exact hp.2 _ _ _ hs hu
      · rename_i h1
        rw [if_neg (by omega)] at hu
        exact h.at hj hs hu
    · rename_i hne
      have hil := (List.getElem?_eq_some_iff.1 hi).1
      have : ¬ (j * esz + t ≤ i * esz + s ∧ i * esz + s < j * esz + t + b.length) := by
        rcases Nat.lt_or_gt_of_ne hne with h1 | h1
        · have := Nat.mul_le_mul_right esz (Nat.succ_le_of_lt h1)
          rw [Nat.succ_mul] at this
          omega
        · have := Nat.mul_le_mul_right esz (Nat.succ_le_of_lt h1)
          rw [Nat.succ_mul] at this
          omega
      rw [if_neg this] at hu
      exact h.at hi hs hu
theorem ElsR.rep {fro : Fro} {esz : Nat} {zs : List PV} {z : List AV} (hp : P2 (RP fro) zs z) (hl : zs.length = esz) : ∀ (n : Nat), ElsR fro esz (List.replicate n zs) (zeros z n) 0 ∧ (zeros z n).length = n * esz
  | 0 => ⟨.nil, by simp [zeros]⟩
  | n + 1 => by
    obtain ⟨h1, h2⟩ := ElsR.rep hp hl n
    have h3 : ElsR fro esz [zs] z 0 := by
      refine .of (by rw [← hp.1]; simp [hl]) (fun j el hj => ?_) fun j el t c u hj ht hlt hu => ?_
      · cases j with
        | zero => cases hj; exact hl
        | succ j => simp at hj
      · cases j with
        | zero => cases hj; exact hp.2 t c u ht (by simpa using hu)
        | succ j => simp at hj
    refine ⟨?_, by simp [zeros, h2, ← hp.1, hl, Nat.add_mul]; omega⟩
    have := h3.append h1 (by rw [← hp.1]; simp [hl])
    exact this
theorem csts_ok {fro : Fro} : ∀ {z : List AV} {zs : List PV}, csts z = some zs → P2 (RP fro) zs z
  | [], zs, h => by cases h; exact .nil
  | v :: r, zs, h => by
    simp only [csts] at h
    split at h
    · rename_i a l h1 h2
      cases h
      have h3 : RS ⟨fun _ => none, fro, fun _ => 0⟩ 0 (cst v) v := cst_rs v
      rw [h1] at h3
      cases h3 with | p h3 => exact .cons h3 (csts_ok h2)
    · cases h
/-- cells, cut into elements -/
theorem chunk_ok {fro : Fro} {esz : Nat} (he : 0 < esz) : ∀ {n : Nat} {l : List PV} {a : List AV}, P2 (RP fro) l a → l.length = n * esz → ElsR fro esz (chunk esz n l) a 0
  | 0, l, a, hp, hl => .nil
  | n + 1, l, a, hp, hl => by
    rw [Nat.succ_mul] at hl
    have hlt : (l.take esz).length = esz := by simp; omega
    have h1 : ElsR fro esz [l.take esz] (a.take esz) 0 := by
      refine .of (by rw [← (hp.take esz).1]; simp; omega) (fun j el hj => ?_) fun j el t c u hj ht hlt hu => ?_
      · cases j with
        | zero => cases hj; exact hlt
        | succ j => simp at hj
      · cases j with
        | zero => cases hj; exact (hp.take esz).2 t c u ht (by simpa using hu)
        | succ j => simp at hj
    have h2 := chunk_ok he (n := n) (hp.drop esz) (by simp; omega)
    have := h1.append h2 (by rw [← (hp.take esz).1]; simp; omega)
    rw [List.take_append_drop] at this
    exact this

theorem st2_ok (r : RH w h ch) {a v : SV} {ca cv : AV} (ha : RS w h.length a ca) (hv : RS w h.length v cv) {sz : Nat} {h' : SH} (hs : st2 sz a v h = some h') : Ok2 k w h ch (.tup []) h' (astore sz ca cv ch) := by
  unfold st2 at hs
  split at hs
  · cases hs
  · rename_i vs hcl
    obtain ⟨cvs, hccl, hpv⟩ := hv.cl hcl
    split at hs
    · rename_i hlen
      split at hs
      · rename_i id0 off0
        split at hs
        · rename_i hb
          split at hs
          · rename_i hfit
            cases hs
            cases ha with
            | ptr hi hc =>
              obtain ⟨cb, h1, h2⟩ := r.at hb hc
              cases h2 with
              | @obj _ ccs hl hp =>
                refine .put r hb hc (ccs' := .row (setl ccs off0 cvs) false) ?_ (.obj (by rw [setl_setg, setg_length]; exact hl) ?_) rs_unit
                · simp only [astore, hccl, AH.wr, h1]
                  rw [if_pos (by rw [← hpv.1]; exact hlen), if_pos (by rw [← hpv.1, ← hp.1]; exact hfit)]
                  rfl
                · rw [setl_setg]; exact hp.setg _ hpv
          · cases hs
        · cases hs
      · rename_i esz0 id0 j0 t0
        split at hs
        · rename_i hb
          split at hs
          · rename_i he
            subst he
            split at hs
            · rename_i el ps hel hps
              split at hs
              · rename_i hfit
                cases hs
                cases ha with
                | ep hi hc =>
                  obtain ⟨cb, h1, h2⟩ := r.at hb hc
                  cases h2 with
                  | @arr _ _ ccs hl he hels =>
                    obtain rfl := pvs_eq hps
                    have hpp : P2 (RP w.fro) ps cvs := by
                      refine ⟨by have := hpv.1; simpa using this, fun j x y hx hy => ?_⟩
                      have := hpv.2 j (.p x) y (by simp [hx]) hy
                      cases this with | p h => exact h
                    have hsz := hels.2.1 _ _ hel
                    have hjl := (List.getElem?_eq_some_iff.1 hel).1
                    have hm := Nat.mul_le_mul_right el.length (Nat.succ_le_of_lt hjl)
                    rw [Nat.succ_mul, hsz] at hm
                    have hll := hels.len
                    refine .put r hb hc (ccs' := .row (setl ccs (j0 * _ + t0) cvs) false) ?_ (.arr (by rw [setl_setg, setg_length]; exact hl) he (hels.setEl hel hpp hfit)) rs_unit
                    simp only [astore, hccl, AH.wr, h1]
                    rw [if_pos (by rw [← hpv.1]; exact hlen), if_pos (by rw [← hpp.1]; omega)]
                    rfl
              · cases hs
            · cases hs
          · cases hs
        · cases hs
      · cases hs
    · cases hs
theorem ElsR.over {fro : Fro} {esz : Nat} {xs ys : List (List PV)} {a b : List AV} (h : ElsR fro esz xs a 0) (h' : ElsR fro esz ys b 0) (hb : b.length = ys.length * esz) (hl : xs.length * esz + b.length ≤ a.length) :
    ElsR fro esz (xs ++ ys) (setl a (xs.length * esz) b) 0 := by
  refine .of (by rw [setl_setg, setg_length, List.length_append, Nat.add_mul]; omega) (fun j el hj => ?_) fun j el t c u hj ht hlt hu => ?_
  · by_cases hx : j < xs.length
    · rw [List.getElem?_append_left hx] at hj; exact h.2.1 _ _ hj
    · rw [List.getElem?_append_right (by omega)] at hj; exact h'.2.1 _ _ hj
  · rw [setl_setg, setg_get _ _ _ _ hl] at hu
    by_cases hx : j < xs.length
    · rw [List.getElem?_append_left hx] at hj
      have := Nat.mul_le_mul_right esz (Nat.succ_le_of_lt hx)
      rw [Nat.succ_mul] at this
      rw [if_neg (by omega)] at hu
      exact h.at hj ht hu
    · have hjl := (List.getElem?_eq_some_iff.1 hj).1
      rw [List.length_append] at hjl
      rw [List.getElem?_append_right (by omega)] at hj
      have h1 := Nat.mul_le_mul_right esz (show xs.length ≤ j by omega)
      have h2 := Nat.mul_le_mul_right esz (show j + 1 ≤ xs.length + ys.length by omega)
      rw [Nat.succ_mul, Nat.add_mul] at h2
      rw [if_pos (by omega)] at hu
      refine h'.at hj ht ?_
      rw [← hu, Nat.sub_mul]; congr 1; omega
/-- a row made of what a slice shows and of what comes behind -/
theorem appo2_ok (r : RH w h ch) {s v : SV} {cs cx : AV} (hs : RS w h.length s cs) {esz bytes esz' id off n : Nat} (hx : RS w h.length (.so esz' id off n) cx) {h' : SH} (ho : appo2 esz bytes s esz' id off n h = some (v, h')) : Ok2 k w h ch v h' (aapp esz bytes cs cx ch) := by
  unfold appo2 at ho
  split at ho
  rotate_left
  · cases ho
  split at ho
  rotate_left
  · cases ho
  rename_i os hb
  split at ho
  rotate_left
  · cases ho
  rename_i hc
  obtain ⟨rfl, he, hby, hn, hfit, hroom, hun⟩ := hc
  cases ho
  cases hs with | p hs => cases hs with | nils =>
  cases hx with
  | @so _ _ _ _ c ccap lo hi hρ hl =>
    obtain ⟨cb, b1, b2⟩ := r.at hb hρ
    cases b2 with
    | @obj _ ccs hl' hP =>
      have hlen : off + n * esz' ≤ ccs.length := by rw [← hP.1]; exact hfit
      have hrd : ch.rdn c off (n * esz') = some ((ccs.drop off).take (n * esz')) := by
        simp only [AH.rdn, b1]
        rw [if_pos ⟨hlen, any_un ((hP.drop off).take (n * esz')) hun⟩]
      unfold aapp
      simp only [ashow, hrd, Option.map_some, he, hby, and_self, if_true]
      refine .new r (cb := .row ((ccs.drop off).take (n * esz')) false) (len := ((ccs.drop off).take (n * esz')).length) (cv := .sl ch.next 0 n n esz') (by rw [if_neg (by omega), if_pos hroom]) (.obj add_rl.symm ?_) (.so (Nat.lt_succ_self _) add_ρ (Nat.le_refl _))
      exact ((hP.drop off).take (n * esz')).mono fun _ _ h => h.mono (r.addLe _) (Nat.le_succ _)
theorem app2_ok (r : RH w h ch) {s x v : SV} {cs cx : AV} (hs : RS w h.length s cs) (hx : RS w h.length x cx) {esz bytes : Nat} {h' : SH} (ho : app2 esz bytes s x h = some (v, h')) : Ok2 k w h ch v h' (aapp esz bytes cs cx ch) := by
  unfold app2 at ho
  split at ho
  · cases ho
  rename_i new hsh
  split at ho
  rotate_left
  · cases ho
  rename_i hpos
  obtain ⟨he, hby⟩ := hpos
  obtain ⟨row, h1, h2, h3, h4⟩ := show2_ok r he hx hsh
  unfold aapp
  simp only [h1, he, hby, and_self, if_true]
  split at ho
  · split at ho
    rotate_left
    · cases ho
    rename_i hroom
    cases ho
    cases hs with | p hs => cases hs with | nils =>
    simp only
    by_cases h0 : new.length = 0
    · have : new = [] := List.length_eq_zero_iff.1 h0
      subst this
      obtain ⟨r1, r2, r3⟩ := r.virt (k := k) esz
      refine ⟨.nils, ch, _, by simp, r1, .slv (by simp) (up_same _ _ _) (by simp), r2, by simp, r3⟩
    · refine .new r (cb := .row row false) (len := row.length) (by rw [if_neg h0, if_pos hroom]) ?_ ?_
      · exact .arr add_rl.symm he (h3.mono (fun _ _ h => h))
      · have := RS.sl (w := w.add h.length ch.next row.length) (n := h.length + 1) (id := h.length) (off := 0) (len := new.length) (cap := none) (ccap := new.length) (lo := esz) (Nat.lt_succ_self _) add_ρ he (by simp) (Nat.le_refl _) (.inr rfl) (by rw [add_rl]; omega)
        simpa using this
  · rename_i esz' id off len cap
    split at ho
    rotate_left
    · cases ho
    rename_i e' els hb
    split at ho
    rotate_left
    · cases ho
    rename_i hez
    obtain ⟨rfl, hez⟩ := hez
    subst hez
    split at ho
    · -- it moves
      split at ho
      rotate_left
      · cases ho
      rename_i hcond
      obtain ⟨rfl, hlen, hroom⟩ := hcond
      cases ho
      have htl : (els.take len).length = len := by simp; omega
      cases hs with
      | @sl _ _ _ _ _ c ccap lo hi hc _ hcap hl hlo hr =>
        obtain ⟨cb, b1, b2⟩ := r.at hb hc
        cases b2 with
        | @arr _ _ ccs hl' _ hels =>
          have hcl := r.lt id c hi hc
          have hm := Nat.mul_le_mul_right esz' hlen
          have hln := hels.len
          have hmc := Nat.mul_le_mul_right esz' hl
          have hshow := show2_ok r he (RS.sl (cap := none) hi hc he hcap hl hlo hr) (esz := esz') (els := (els.drop 0).take len) (by simp only [show2, hb]; rw [if_pos ⟨trivial, trivial, by omega⟩])
          obtain ⟨old, o1, o2, o3, o4⟩ := hshow
          simp only [Nat.zero_mul, Nat.zero_add, List.drop_zero] at hr o1 o2 o3 ⊢
          rw [htl] at o2
          by_cases hfit : len + new.length ≤ ccap
          · -- in its place
            rw [if_pos hfit]
            have hmf := Nat.mul_le_mul_right esz' hfit
            rw [Nat.add_mul] at hmf
            obtain ⟨ch', hwr, e1, e2, e3⟩ : ∃ ch', (if new.length = 0 then some (AV.sl c 0 len ccap lo, ch) else Option.map (fun h' => (AV.sl c 0 (len + new.length) ccap lo, h')) (ch.wr c (len * esz') row)) = some (.sl c 0 (len + new.length) ccap lo, ch') ∧
                ch'.next = ch.next ∧ (∀ d, d ≠ c → ch'.blk d = ch.blk d) ∧ ch'.blk c = some (.row (setl ccs (len * esz') row) false) := by
              by_cases h0 : new.length = 0
              · have hr0 : row = [] := List.length_eq_zero_iff.1 (by rw [h2, h0]; omega)
                refine ⟨ch, by rw [if_pos h0, h0]; rfl, rfl, fun _ _ => rfl, ?_⟩
                subst hr0; exact b1
              · refine ⟨ch.set c (some (.row (setl ccs (len * esz') row) false)), ?_, rfl, fun d hd => by simp [AH.set, hd], by simp [AH.set]⟩
                rw [if_neg h0]
                simp only [AH.wr, b1]
                rw [if_pos (by omega)]
                rfl
            have hnew : ElsR w.fro esz' (els.take len ++ new) (setl ccs (len * esz') row) 0 := by
              have := (hels.take len).over h3 h2 (by rw [htl]; omega)
              rwa [htl] at this
            obtain ⟨m1, m2, m3⟩ := r.move (k := k) (bAt_eq hb) (b' := .arr esz' (els.take len ++ new)) (c' := some c) (ch' := ch') (rl := w.rl) (by omega) (fun d hd hne => e2 d (fun e => hne (by rw [hc, e]))) (fun _ _ => rfl)
              (fun d hd => by cases hd; exact ⟨by omega, .inl hc⟩) (fun d hd => by cases hd; exact ⟨_, e3, .arr (by rw [setl_setg, setg_length]; exact hl') he hnew⟩) (fun h => by cases h) (fun i hi => by have := r.lv (bAt_eq hb) hc; rw [e2 i (by omega)]; exact r.wf i (by omega))
            refine ⟨_, ch', w.mv h.length (some c) w.rl, hwr, m1, ?_, m2, by simp, m3⟩
            have := RS.sl (w := w.mv h.length (some c) w.rl) (n := h.length + 1) (id := h.length) (off := 0) (len := len + new.length) (cap := none) (ccap := ccap) (lo := lo) (Nat.lt_succ_self _) (up_same _ _ _) he (by simp) hfit hlo (by show 0 * esz' + ccap * esz' ≤ w.rl c; omega)
            simpa using this
          · rw [if_neg hfit, if_pos hroom]
            have hold : ch.rdn c 0 (len * esz') = some old := by
              simp only [ashow, Option.map_eq_some_iff] at o1
              obtain ⟨z, hz, hz'⟩ := o1
              rw [← (Prod.mk.inj hz').2]
              exact hz
            have hnl : (old ++ row).length = (len + new.length) * esz' := by rw [List.length_append, o2, h2, Nat.add_mul]
            obtain ⟨ch', hgr, e1, e2, e3, e4⟩ : ∃ ch', (if lo = 0 then some (AV.sl ch.next 0 (len + new.length) (len + new.length) esz', ch.alloc (.row (old ++ row) false)) else
                match ch.blk c with
                | some (.row _ false) => if True ∧ lo = esz' then some (AV.sl ch.next 0 (len + new.length) (len + new.length) esz', (ch.set c none).alloc (.row (old ++ row) false)) else none
                | _ => none) = some (AV.sl ch.next 0 (len + new.length) (len + new.length) esz', ch') ∧ ch'.next = ch.next + 1 ∧ (∀ d, d ≠ c → d < ch.next → ch'.blk d = ch.blk d) ∧ ch'.blk ch.next = some (.row (old ++ row) false) ∧ (∀ d, ch.next + 1 ≤ d → ch'.blk d = none) := by
              by_cases h0 : lo = 0
              · exact ⟨ch.alloc (.row (old ++ row) false), by rw [if_pos h0], rfl, fun d _ hd => by simp only [AH.alloc]; rw [if_neg (by omega)], by simp [AH.alloc], fun d hd => by
                  have hd2 : ¬ d = ch.next := by omega
                  simp only [AH.alloc]; rw [if_neg hd2]; exact r.wf d (by omega)⟩
              · have hle := hlo.resolve_left h0
                refine ⟨(ch.set c none).alloc (.row (old ++ row) false), by rw [if_neg h0, b1]; simp only [hle, and_self, if_true], rfl, fun d hd1 hd => ?_, by simp [AH.alloc, AH.set], fun d hd => by
                  have := r.lv (bAt_eq hb) hc
                  have hd2 : ¬ d = ch.next := by omega
                  have hd3 : ¬ d = c := by omega
                  simp only [AH.alloc, AH.set, hd2, hd3, if_false]; exact r.wf d (by omega)⟩
                simp [AH.alloc, AH.set, hd1, Nat.ne_of_lt hd]
            obtain ⟨m1, m2, m3⟩ := r.move (k := k) (bAt_eq hb) (b' := .arr esz' (els.take len ++ new)) (c' := some ch.next) (ch' := ch') (rl := up w.rl ch.next ((len + new.length) * esz')) (by omega) (fun d hd hne => e2 d (fun e => hne (by rw [hc, e])) hd) (fun d hd => up_ne _ _ (by omega))
              (fun d hd => by cases hd; exact ⟨by omega, .inr (Nat.le_refl _)⟩) (fun d hd => by cases hd; exact ⟨_, e3, .arr (by rw [hnl]; exact (up_same _ _ _).symm) he (o3.append h3 (by rw [htl]; exact o2))⟩) (fun h => by cases h) (fun i hi => e4 i (by omega))
            refine ⟨AV.sl ch.next 0 (len + new.length) (len + new.length) esz', ch', _, ?_, m1, ?_, m2, by simp, m3⟩
            · simp only [hold]
              exact hgr
            · have := RS.sl (w := w.mv h.length (some ch.next) (up w.rl ch.next ((len + new.length) * esz'))) (n := h.length + 1) (id := h.length) (off := 0) (len := len + new.length) (cap := none) (ccap := len + new.length) (lo := esz') (Nat.lt_succ_self _) (up_same _ _ _) he (by simp) (Nat.le_refl _) (.inr rfl)
                (by show 0 * esz' + (len + new.length) * esz' ≤ up w.rl ch.next ((len + new.length) * esz') ch.next; rw [up_same]; omega)
              simpa using this
      | slv hi hc hcap =>
        simp only [Nat.zero_add, List.take_zero, List.nil_append] at hroom ⊢
        by_cases h0 : new.length = 0
        · have : new = [] := List.length_eq_zero_iff.1 h0
          subst this
          obtain ⟨m1, m2, m3⟩ := r.move (k := k) (bAt_eq hb) (b' := .arr esz' []) (c' := none) (ch' := ch) (rl := w.rl) (Nat.le_refl _) (fun _ _ _ => rfl) (fun _ _ => rfl) (fun d hd => by cases hd) (fun d hd => by cases hd) (fun _ => ⟨_, rfl⟩) r.wf
          refine ⟨.nils, ch, _, by simp, m1, ?_, m2, by simp, m3⟩
          exact .slv (by simp) (up_same _ _ _) (by simp)
        · obtain ⟨m1, m2, m3⟩ := r.move (k := k) (bAt_eq hb) (b' := .arr esz' new) (c' := some ch.next) (ch' := ch.alloc (.row row false)) (rl := up w.rl ch.next row.length) (Nat.le_succ _) (fun d hd hne => by simp only [AH.alloc]; rw [if_neg (by omega)]) (fun d hd => up_ne _ _ (by omega))
              (fun d hd => by cases hd; exact ⟨Nat.lt_succ_self _, .inr (Nat.le_refl _)⟩) (fun d hd => by cases hd; exact ⟨.row row false, by simp [AH.alloc], .arr (up_same _ _ _).symm he h3⟩) (fun h => by cases h) (fun i hi => by simp only [AH.alloc] at hi ⊢; rw [if_neg (by omega)]; exact r.wf i (by omega))
          refine ⟨.sl ch.next 0 new.length new.length esz', ch.alloc (.row row false), _, by rw [if_neg h0, if_pos hroom], m1, ?_, m2, by simp, m3⟩
          have := RS.sl (w := w.mv h.length (some ch.next) (up w.rl ch.next row.length)) (n := h.length + 1) (id := h.length) (off := 0) (len := new.length) (cap := none) (ccap := new.length) (lo := esz') (Nat.lt_succ_self _) (up_same _ _ _) he (by simp) (Nat.le_refl _) (.inr rfl)
                (by show 0 * esz' + new.length * esz' ≤ up w.rl ch.next row.length ch.next; rw [up_same]; omega)
          simpa using this
    · -- there is room
      rename_i m
      split at ho
      rotate_left
      · cases ho
      rename_i hcond
      obtain ⟨hfit, hin⟩ := hcond
      cases ho
      cases hs with
      | @sl _ _ _ _ _ c ccap lo hi hc _ hcap hl hlo hr =>
        obtain ⟨cb, b1, b2⟩ := r.at hb hc
        cases b2 with
        | @arr _ _ ccs hl' _ hels =>
          have hcm := hcap m rfl
          simp only
          rw [if_pos (show len + new.length ≤ ccap by omega)]
          have hmf := Nat.mul_le_mul_right esz' (show off + len + new.length ≤ off + ccap by omega)
          rw [Nat.add_mul, Nat.add_mul off ccap] at hmf
          have hrs : RS w h.length (.sl esz' id off (len + new.length) (some m)) (.sl c (off * esz') (len + new.length) ccap lo) := .sl hi hc he (fun k hk => by cases hk; omega) (by omega) hlo hr
          have hspl := hels.splice (o := off + len) h3 h2 (by omega) he
          by_cases h0 : new.length = 0
          · have hr0 : row = [] := List.length_eq_zero_iff.1 (by rw [h2, h0]; omega)
            have hn0 : new = [] := List.length_eq_zero_iff.1 h0
            subst hn0
            have e : els.take (off + len) ++ [] ++ els.drop (off + len + ([] : List (List PV)).length) = els := by simp
            rw [e]
            have e2 : h.set id (some (.arr esz' els)) = h := by
              apply List.ext_getElem?
              intro i
              rw [List.getElem?_set]
              split
              · rename_i hi'; subst hi'; rw [bAt_eq hb]; (try simp [hi])
              · rfl
            rw [e2]
            refine .pure r (by rw [if_pos h0]) ?_
            exact hrs
          · refine .put r hb hc (ccs' := .row (setl ccs ((off + len) * esz') row) false) (cv := .sl c (off * esz') (len + new.length) ccap lo) ?_ (.arr (by rw [setl_setg, setg_length]; exact hl') he hspl) hrs
            rw [if_neg h0]
            simp only [AH.wr, b1]
            rw [← Nat.add_mul, if_pos (by omega)]
            rfl
      | slv hi hc hcap =>
        have := hcap m rfl
        subst this
        have h0 : new.length = 0 := by omega
        have hn0 : new = [] := List.length_eq_zero_iff.1 h0
        subst hn0
        have e : els.take (off + 0) ++ [] ++ els.drop (off + 0 + ([] : List (List PV)).length) = els := by simp
        rw [e]
        have e2 : h.set id (some (.arr esz' els)) = h := by
          apply List.ext_getElem?
          intro i
          rw [List.getElem?_set]
          split
          · rename_i hi'; subst hi'; rw [bAt_eq hb]; (try simp [hi])
          · rfl
        rw [e2]
        exact .pure r (by simp) (.slv hi hc hcap)
  · cases ho
end
end Go.Proofs.Ytadbipeachcekaa.Ab
/- The second machine: each operation is one of the first. -/
namespace Go.Proofs.Ytadbipeachcekaa.Ab
open Go
set_option linter.unusedVariables false
section
variable {k n : Nat} {w : Wd} {h : SH} {ch : AH}
theorem cpy2_ok (r : RH w h ch) {d s v : SV} {cd cs : AV} (hd : RS w h.length d cd) (hs : RS w h.length s cs) {esz : Nat} {h' : SH} (ho : cpy2 esz d s h = some (v, h')) : Ok2 k w h ch v h' (acopy esz cd cs ch) := by
  unfold cpy2 at ho
  split at ho
  · cases ho
  rename_i new hsh
  split at ho
  · rename_i esz' id off len cap
    split at ho
    · rename_i e' els hb
      split at ho
      rotate_left
      · cases ho
      rename_i hcond
      obtain ⟨he, rfl, rfl, hin⟩ := hcond
      cases ho
      obtain ⟨row, h1, h2, h3, h4⟩ := show2_ok r he hs hsh
      unfold acopy
      simp only [h1]
      cases hd with
      | @sl _ _ _ _ _ c ccap lo hi hc _ hcap hl hlo hr =>
        obtain ⟨cb, b1, b2⟩ := r.at hb hc
        cases b2 with
        | @arr _ _ ccs hl' _ hels =>
          have hmin : (new.take len).length = min new.length len := by simp [Nat.min_comm]
          have hrow : ElsR w.fro esz' (new.take len) (row.take (min new.length len * esz')) 0 := by
            have h5 := h3.take len
            refine .of ?_ h5.2.1 fun j el t c' a hj ht hlt ha => ?_
            · rw [hmin, List.length_take, h2]
              have := Nat.mul_le_mul_right esz' (Nat.min_le_left new.length len)
              omega
            · rw [List.getElem?_take] at ha
              split at ha
              · exact h5.at hj ht ha
              · cases ha
          have hrl : (row.take (min new.length len * esz')).length = (new.take len).length * esz' := by
            rw [hmin, List.length_take, h2]
            have := Nat.mul_le_mul_right esz' (Nat.min_le_left new.length len)
            omega
          have hspl := hels.splice (o := off) hrow hrl (by rw [hmin]; omega) he
          rw [hmin] at hspl
          simp only
          by_cases h0 : min new.length len = 0
          · have hz : new.take len = [] := List.length_eq_zero_iff.1 (by omega)
            rw [hz, h0] at hspl ⊢
            have e : els.take off ++ [] ++ els.drop (off + 0) = els := by simp
            rw [e]
            have e2 : h.set id (some (.arr esz' els)) = h := by
              apply List.ext_getElem?
              intro i
              rw [List.getElem?_set]
              split
              · rename_i hi'; subst hi'; rw [bAt_eq hb]; (try simp [hi])
              · rfl
            rw [e2]
            exact .pure r rfl (.p (.i _ _))
          · refine .put r hb hc (ccs' := .row (setl ccs (off * esz') (row.take (min new.length len * esz'))) false) (cv := .i .i64 (min new.length len : Nat)) ?_ (.arr (by rw [setl_setg, setg_length]; exact hl') he hspl) (.p (.i _ _))
            rw [if_neg h0]
            simp only [AH.wr, b1]
            have hm := Nat.mul_le_mul_right esz' (show off + min new.length len ≤ els.length by omega)
            rw [Nat.add_mul] at hm
            have := hels.len
            rw [if_pos (by rw [hrl, hmin]; omega)]
            rfl
      | slv hi hc hcap =>
        have hz : new.take 0 = [] := by simp
        have e : els.take off ++ new.take 0 ++ els.drop (off + min new.length 0) = els := by simp
        rw [e]
        have e2 : h.set id (some (.arr esz' els)) = h := by
          apply List.ext_getElem?
          intro i
          rw [List.getElem?_set]
          split
          · rename_i hi'; subst hi'; rw [bAt_eq hb]; (try simp [hi])
          · rfl
        rw [e2]
        exact .pure r rfl (by simpa using RS.p (.i _ _))
    · cases ho
  · cases ho
theorem clr2_ok (r : RH w h ch) {x v : SV} {cx : AV} (hx : RS w h.length x cx) {esz : Nat} {z : List AV} {h' : SH} (ho : clr2 esz z x h = some (v, h')) : Ok2 k w h ch v h' (aclear esz z cx ch) := by
  unfold clr2 at ho
  split at ho
  · cases ho
    cases hx with | p hx => cases hx with | nils => exact .pure r rfl rs_unit
  · rename_i esz' id off len cap
    split at ho
    · rename_i e' els zs hb hz
      split at ho
      rotate_left
      · cases ho
      rename_i hcond
      obtain ⟨he, rfl, rfl, hin, hzl⟩ := hcond
      cases ho
      have hzp := csts_ok (fro := w.fro) hz
      obtain ⟨hrep, hrl⟩ := ElsR.rep hzp hzl len
      cases hx with
      | @sl _ _ _ _ _ c ccap lo hi hc _ hcap hl hlo hr =>
        obtain ⟨cb, b1, b2⟩ := r.at hb hc
        cases b2 with
        | @arr _ _ ccs hl' _ hels =>
          have hspl := hels.splice (o := off) hrep (by simp [hrl]) (by simpa using hin) he
          rw [List.length_replicate] at hspl
          unfold aclear
          simp only
          by_cases h0 : len = 0
          · subst h0
            have e : els.take off ++ List.replicate 0 zs ++ els.drop (off + 0) = els := by simp
            rw [e]
            have e2 : h.set id (some (.arr esz' els)) = h := by
              apply List.ext_getElem?
              intro i
              rw [List.getElem?_set]
              split
              · rename_i hi'; subst hi'; rw [bAt_eq hb]; (try simp [hi])
              · rfl
            rw [e2]
            exact .pure r rfl rs_unit
          · refine .put r hb hc (ccs' := .row (setl ccs (off * esz') (zeros z len)) false) (cv := .tup []) ?_ (.arr (by rw [setl_setg, setg_length]; exact hl') he hspl) rs_unit
            rw [if_neg h0, if_pos (by rw [← hzp.1]; exact hzl)]
            simp only [AH.wr, b1]
            have hm := Nat.mul_le_mul_right esz' hin
            rw [Nat.add_mul] at hm
            have := hels.len
            rw [if_pos (by rw [hrl]; omega)]
            rfl
      | slv hi hc hcap =>
        have e : els.take off ++ List.replicate 0 zs ++ els.drop (off + 0) = els := by simp
        rw [e]
        have e2 : h.set id (some (.arr esz' els)) = h := by
          apply List.ext_getElem?
          intro i
          rw [List.getElem?_set]
          split
          · rename_i hi'; subst hi'; rw [bAt_eq hb]; (try simp [hi])
          · rfl
        rw [e2]
        exact .pure r rfl rs_unit
    · cases ho
  · cases ho
theorem mks2_ok (r : RH w h ch) {l c v : SV} {cl cc : AV} (hl : RS w h.length l cl) (hc : RS w h.length c cc) {esz bytes : Nat} {z : List AV} {h' : SH} (ho : mks2 esz bytes z l c h = some (v, h')) : Ok2 k w h ch v h' (amake esz bytes z cl cc ch) := by
  unfold mks2 at ho
  split at ho
  · rename_i l c zs hz
    split at ho
    · rename_i hcond
      obtain ⟨h1, h2, h3, h4, h5, h6⟩ := hcond
      cases ho
      cases hl with | p hl => cases hl with | i =>
      cases hc with | p hc => cases hc with | i =>
      have hzp := csts_ok (fro := w.fro) hz
      obtain ⟨hrep, hrl⟩ := ElsR.rep hzp h5 c.toNat
      have hmul := Nat.mul_le_mul_right esz (show l.toNat ≤ c.toNat by omega)
      refine .new r (cb := .row (zeros z c.toNat) false) (len := c.toNat * esz) (cv := .sl ch.next 0 l.toNat c.toNat 0) ?_ (.arr (by rw [add_rl]; exact hrl) h6 ?_) ?_
      · simp only [amake]
        rw [if_pos ⟨h1, h2, h3, h4, by rw [← hzp.1]; exact h5⟩]
      · have := hrep.take l.toNat
        rw [List.take_replicate, Nat.min_eq_left (by omega)] at this
        exact this.mono (fun _ _ h => h)
      · have := RS.sl (w := w.add h.length ch.next (c.toNat * esz)) (n := h.length + 1) (id := h.length) (off := 0) (len := l.toNat) (cap := none) (ccap := c.toNat) (lo := 0) (Nat.lt_succ_self _) add_ρ h6 (by simp) (by omega) (.inl rfl) (by rw [add_rl]; omega)
        simpa using this
    · cases ho
  · cases ho
theorem fills2_ok {e : SE} {ce : Env} (he : RE w n e ce) : ∀ {ps : List (Nat × Nat × AX)} {z cs : List SV} {cz : List AV}, P2 (RS w n) z cz → fills2 e z ps = some cs → ∃ ccs, fills ce cz ps = some ccs ∧ P2 (RS w n) cs ccs
  | [], z, cs, cz, hz, hf => by cases hf; exact ⟨cz, rfl, hz⟩
  | (o, m, x) :: ps, z, cs, cz, hz, hf => by
    simp only [fills2] at hf
    split at hf
    · rename_i vs hcl
      split at hf
      · rename_i hc
        obtain ⟨cvs, h1, h2⟩ := (evs_rs he x).cl hcl
        obtain ⟨ccs, h3, h4⟩ := fills2_ok he (hz.setg o h2) hf
        refine ⟨ccs, ?_, h4⟩
        simp only [fills, h1]
        rw [if_pos ⟨by rw [← h2.1]; exact hc.1, by rw [← hz.1]; exact hc.2⟩, setl_setg]
        exact h3
      · cases hf
    · cases hf
theorem sptr_ok {v : SV} {a : AV} (hv : RS w n v a) (hp : sptr v = true) : ∃ id o, a = .ptr id o := by
  cases hv with
  | p h => cases h <;> first | (simp [sptr] at hp; done) | exact ⟨_, _, rfl⟩
  | ptr => exact ⟨_, _, rfl⟩
  | ep => exact ⟨_, _, rfl⟩
  | _ => simp [sptr] at hp
theorem ptrs_ok : ∀ {l : List SV} {cl : List AV}, P2 (RS w n) l cl → l.all sptr = true → ∃ qs, ptrs cl = some qs ∧ l.length = qs.length ∧ ∀ (j : Nat) s q, l[j]? = some s → qs[j]? = some q → RS w n s (.ptr q.1 q.2)
  | [], cl, hp, _ => by
    have : cl = [] := List.length_eq_zero_iff.1 hp.1.symm
    subst this; exact ⟨[], rfl, rfl, fun j s q h => by simp at h⟩
  | v :: l, cl, hp, ha => by
    cases cl with
    | nil => have := hp.1; simp at this
    | cons a cl =>
      simp only [List.all_cons, Bool.and_eq_true] at ha
      have hv := hp.2 0 v a rfl rfl
      obtain ⟨id, o, rfl⟩ := sptr_ok hv ha.1
      obtain ⟨qs, h1, h2, h3⟩ := ptrs_ok (l := l) (cl := cl) ⟨by have := hp.1; simpa using this, fun j x y hx hy => hp.2 (j + 1) x y (by simpa using hx) (by simpa using hy)⟩ ha.2
      refine ⟨(id, o) :: qs, by simp [ptrs, h1], by simp [h2], fun j s q hs hq => ?_⟩
      cases j with
      | zero => simp at hs hq; subst hs; subst hq; exact hv
      | succ j => simp at hs hq; exact h3 j s q hs hq
theorem aeq2_ok {kd : EK} {x y : SV} {cx cy : AV} {b : Bool} (hx : RS w n x cx) (hy : RS w n y cy) (hv : aeq2 kd x y = some b) : aeq kd cx cy = some b := by
  unfold aeq2 at hv
  split at hv
  · cases hv; cases hx with | p hx => cases hx with | b => cases hy with | p hy => cases hy with | b => rfl
  · cases hv; cases hx with | p hx => cases hx with | nilp => cases hy with | p hy => cases hy with | nilp => rfl
  · split at hv
    · rename_i hp; cases hv; obtain ⟨id, o, rfl⟩ := sptr_ok hx hp; cases hy with | p hy => cases hy with | nilp => rfl
    · cases hv
  · split at hv
    · rename_i hp; cases hv; obtain ⟨id, o, rfl⟩ := sptr_ok hy hp; cases hx with | p hx => cases hx with | nilp => rfl
    · cases hv
  · cases hv; cases hx with | p hx => cases hx with | nils => cases hy with | p hy => cases hy with | nils => rfl
  · cases hv; cases hx with | p hx => cases hx with | fz => cases hy with | p hy => cases hy with | nils => rfl
  · cases hv; cases hx with | sl => cases hy with | p hy => cases hy with | nils => rfl
  · cases hv; cases hx with | p hx => cases hx with | nilm => cases hy with | p hy => cases hy with | nilm => rfl
  · cases hv; cases hx with | mp => cases hy with | p hy => cases hy with | nilm => rfl
  · cases hv; cases hx with | p hx => cases hx with | nilf => cases hy with | p hy => cases hy with | nilf => rfl
  · cases hv; cases hx with | fn => cases hy with | p hy => cases hy with | nilf => rfl
  · split at hv
    · rename_i a b h1 h2
      cases hx with | agg x1 x2 => cases hy with | agg y1 y2 =>
      have hpx : P2 (RS w n) _ _ := ⟨x1, x2⟩
      have hpy : P2 (RS w n) _ _ := ⟨y1, y2⟩
      rw [scs_eq hpx h1, scs_eq hpy h2]
      exact hv
    · cases hv
  · cases hv
theorem bytes2_ok {fro : Fro} : ∀ {els : List (List PV)} {row : List AV} {l : List UInt8}, row.length = els.length * 1 → ElsR fro 1 els row 0 → bytes2 els = some l → bytesOf row = some l
  | [], row, l, hl, hr, hb => by
    have : row = [] := List.length_eq_zero_iff.1 (by simpa using hl)
    subst this; cases hb; rfl
  | el :: els, row, l, hl, hr, hb => by
    cases row with
    | nil => simp at hl
    | cons a row =>
      unfold bytes2 at hb
      split at hb
      · rename_i e; cases e
      · rename_i n r e
        cases e
        simp only [Option.map_eq_some_iff] at hb
        obtain ⟨l', h1, rfl⟩ := hb
        have ha := hr.at (j := 0) (t := 0) (el := [PV.i .u8 n]) rfl rfl rfl
        cases ha with
        | i =>
          have h2 : ElsR fro 1 els row 0 := .of (by simp at hl; omega) (fun j e he => hr.2.1 (j + 1) e (by simpa using he)) fun j e t c u he ht hlt hu => by
            have : t = 0 := by omega
            subst this
            exact hr.at (j := j + 1) (t := 0) (by simpa using he) ht (by simpa using hu)
          rw [bytesOf, bytes2_ok (by simpa using hl) h2 h1]
          rfl
      · cases hb
theorem key2_eq {v : SV} {a c : AV} (h : RS w n v c) (hs : key2 v = some a) : c = a := by
  unfold key2 at hs
  split at hs
  · simp only [Option.map_eq_some_iff] at hs
    obtain ⟨l, h1, rfl⟩ := hs
    cases h with
    | agg h2 h3 => rw [scs_eq ⟨h2, h3⟩ h1]
  · exact sc_eq h hs
def FindR (w : Wd) (n : Nat) : Option (Nat × SV) → Option (Nat × AV × Nat) → Prop
  | none, none => True
  | some (i, v), some (ci, cv, _) => i = ci ∧ RS w n v cv
  | _, _ => False
theorem kfind2_ok {kk : KK} {kv : SV} {ck : AV} (hk : RS w n kv ck) : ∀ {es : List (SV × SV)} {ces : List (AV × AV × Nat)} {j : Nat} {r : Option (Nat × SV)}, P2 (fun x y => RS w n x.1 y.1 ∧ RS w n x.2 y.2.1) es ces → kfind2 kk kv es j = some r →
    ∃ cr, kfind kk ck ces j = some cr ∧ FindR w n r cr
  | [], ces, j, r, hp, hr => by
    have : ces = [] := List.length_eq_zero_iff.1 hp.1.symm
    subst this; cases hr; exact ⟨none, rfl, trivial⟩
  | (x, v) :: es, ces, j, r, hp, hr => by
    cases ces with
    | nil => have := hp.1; simp at this
    | cons y ces =>
      obtain ⟨cx, cv, b⟩ := y
      have h0 : RS w n x cx ∧ RS w n v cv := hp.2 0 (x, v) (cx, cv, b) rfl rfl
      simp only [kfind2] at hr
      have hkq : ∀ {q : Bool}, keyq2 kk kv x = some q → keyq kk ck cx = some q := fun {q} hq => by
        unfold keyq2 at hq
        split at hq
        · rename_i a b h1 h2
          rw [key2_eq hk h1, key2_eq h0.1 h2]; exact hq
        · cases hq
      split at hr
      · rename_i hq; cases hr; exact ⟨some (j, cv, b), by simp only [kfind, hkq hq], rfl, h0.2⟩
      · rename_i hq
        obtain ⟨cr, h1, h2⟩ := kfind2_ok hk (es := es) (ces := ces) (j := j + 1) ⟨by have := hp.1; simpa using this, fun i x y hx hy => hp.2 (i + 1) x y (by simpa using hx) (by simpa using hy)⟩ hr
        exact ⟨cr, by simp only [kfind, hkq hq]; exact h1, h2⟩
      · cases hr
theorem mapAt_ok (r : RH w h ch) {m : SV} {cm : AV} (hm : RS w h.length m cm) {id : Nat} {es : List (SV × SV)} (hv : mapAt m h = some (id, es)) :
    ∃ c ces cl, cm = .mp c ∧ w.ρ id = some c ∧ bAt h id = some (.map es) ∧ ch.blk c = some (.map ces cl) ∧ P2 (fun x y => RS w h.length x.1 y.1 ∧ RS w h.length x.2 y.2.1) es ces ∧ Bo ces cl := by
  unfold mapAt at hv
  split at hv
  · split at hv
    · rename_i hb
      cases hv
      cases hm with
      | mp hi hc =>
        obtain ⟨cb, h1, h2⟩ := r.at hb hc
        cases h2 with
        | map hp hbo => exact ⟨_, _, _, rfl, hc, hb, h1, hp, hbo⟩
    · cases hv
  · cases hv
theorem mfind_ok {kk : KK} {kv : SV} {ck : AV} (hk : RS w n kv ck) {es : List (SV × SV)} {ces : List (AV × AV × Nat)} {r : Option (Nat × SV)} (hp : P2 (fun x y => RS w n x.1 y.1 ∧ RS w n x.2 y.2.1) es ces) (hr : mfind kk kv es = some r) :
    ∃ cr, (if kok kk ck then kfind kk ck ces 0 else none) = some cr ∧ FindR w n r cr := by
  unfold mfind at hr
  split at hr
  · rename_i hok
    obtain ⟨cr, h1, h2⟩ := kfind2_ok hk hp hr
    refine ⟨cr, ?_, h2⟩
    unfold kok2 at hok
    split at hok
    · rename_i a ha
      rw [key2_eq hk ha] at h1 ⊢
      rw [if_pos hok]; exact h1
    · cases hok
  · cases hr
theorem zv_rs (z : AV) : RS w n (lkp2.zv z) z := by
  unfold lkp2.zv
  split
  · exact .agg (cst_map (w := w) (n := n) _).1 (cst_map _).2
  · exact cst_rs _
theorem rs_pair {a b : SV} {ca cb : AV} (ha : RS w n a ca) (hb : RS w n b cb) : RS w n (.tup [a, b]) (.tup [ca, cb]) := by
  have hp : P2 (RS w n) [a, b] [ca, cb] := .cons ha (.one hb)
  exact .tup hp.1 hp.2
theorem lkp2_ok (r : RH w h ch) {kk : KK} {z : AV} {ok : Bool} {m kv v : SV} {cm ck : AV} (hm : RS w h.length m cm) (hk : RS w h.length kv ck) (hv : lkp2 kk z ok m kv h = some v) : ∃ cv, alookup kk z ok cm ck ch = some (cv, ch) ∧ RS w h.length v cv := by
  unfold lkp2 at hv
  split at hv
  · cases hv
  · rename_i id es hma
    obtain ⟨c, ces, cl, rfl, hc, hb, h1, hp, hbo⟩ := mapAt_ok r hm hma
    have hz := zv_rs (w := w) (n := h.length) z
    split at hv
    · cases hv
    · rename_i hf
      cases hv
      obtain ⟨cr, h2, h3⟩ := mfind_ok hk hp hf
      cases cr with
      | some x => exact False.elim h3
      | none =>
        refine ⟨if ok then .tup [z, .b false] else z, ?_, ?_⟩
        · simp only [alookup, amapof, h1, h2]
        · cases ok
          · exact hz
          · exact rs_pair hz (.p (.b _))
    · rename_i i v0 hf
      cases hv
      obtain ⟨cr, h2, h3⟩ := mfind_ok hk hp hf
      cases cr with
      | none => exact False.elim h3
      | some x =>
        obtain ⟨ci, cv, b⟩ := x
        refine ⟨if ok then .tup [cv, .b true] else cv, ?_, ?_⟩
        · simp only [alookup, amapof, h1, h2]
        · cases ok
          · exact h3.2
          · exact rs_pair h3.2 (.p (.b _))
theorem mup2_ok (r : RH w h ch) {kk : KK} {m kv v : SV} {cm ck cv : AV} (hm : RS w h.length m cm) (hk : RS w h.length kv ck) (hvv : RS w h.length v cv) {h' : SH} (hv : mup2 kk m kv v h = some h') :
    Ok2 k w h ch (.tup []) h' (if ck.cl.isSome ∧ cv.cl.isSome then amapput kk cm ck cv ch else none) := by
  unfold mup2 at hv
  split at hv
  · cases hv
  · rename_i id es hma
    obtain ⟨c, ces, cl, rfl, hc, hb, h1, hp, hbo⟩ := mapAt_ok r hm hma
    split at hv
    rotate_left
    · cases hv
    rename_i hcl
    obtain ⟨k1, hk1⟩ := Option.isSome_iff_exists.1 hcl.1
    obtain ⟨v1, hv1⟩ := Option.isSome_iff_exists.1 hcl.2
    obtain ⟨ck1, hck1, _⟩ := hk.cl hk1
    obtain ⟨cv1, hcv1, _⟩ := hvv.cl hv1
    rw [if_pos ⟨by rw [hck1]; rfl, by rw [hcv1]; rfl⟩]
    split at hv
    · cases hv
    · rename_i hf
      cases hv
      obtain ⟨cr, h2, h3⟩ := mfind_ok hk hp hf
      cases cr with
      | some x => exact False.elim h3
      | none =>
        refine .put r hb hc (ccs' := .map (ces ++ [(ck, cv, cl)]) (cl + 1)) ?_ (.map (hp.append (.one ⟨hk, hvv⟩)) (hbo.snoc _ _)) rs_unit
        simp only [amapput, amapof, h1, h2]
    · rename_i i v0 hf
      cases hv
      obtain ⟨cr, h2, h3⟩ := mfind_ok hk hp hf
      cases cr with
      | none => exact False.elim h3
      | some x =>
        obtain ⟨ci, cv0, b⟩ := x
        have h3 : i = ci ∧ RS w h.length v0 cv0 := h3
        obtain ⟨rfl, _⟩ := h3
        refine .put r hb hc (ccs' := .map (ces.set i (ck, cv, b)) cl) ?_ (.map (hp.set i ⟨hk, hvv⟩) (by
          split at h2
          · obtain ⟨y, _, hy⟩ := kfind_get h2; exact hbo.set hy
          · cases h2)) rs_unit
        simp only [amapput, amapof, h1, h2]
theorem del2_ok (r : RH w h ch) {kk : KK} {m kv : SV} {cm ck : AV} (hm : RS w h.length m cm) (hk : RS w h.length kv ck) {h' : SH} (hv : del2 kk m kv h = some h') :
    Ok2 k w h ch (.tup []) h' (adel kk cm ck ch) := by
  unfold del2 at hv
  split at hv
  · cases hv
  · rename_i id es hma
    obtain ⟨c, ces, cl, rfl, hc, hb, h1, hp, hbo⟩ := mapAt_ok r hm hma
    split at hv
    · cases hv
    · rename_i hf
      cases hv
      obtain ⟨cr, h2, h3⟩ := mfind_ok hk hp hf
      cases cr with
      | some x => exact False.elim h3
      | none => exact .pure r (by simp only [adel, amapof, h1, h2]) rs_unit
    · rename_i i v0 hf
      cases hv
      obtain ⟨cr, h2, h3⟩ := mfind_ok hk hp hf
      cases cr with
      | none => exact False.elim h3
      | some x =>
        obtain ⟨ci, cv0, b⟩ := x
        have h3 : i = ci ∧ RS w h.length v0 cv0 := h3
        obtain ⟨rfl, _⟩ := h3
        refine .put r hb hc (ccs' := .map (ces.eraseIdx i) cl) ?_ (.map (hp.eraseIdx i) (hbo.erase i)) rs_unit
        simp only [adel, amapof, h1, h2]
end
end Go.Proofs.Ytadbipeachcekaa.Ab
/- The second machine: what code comes to. -/
namespace Go.Proofs.Ytadbipeachcekaa.Ab
open Go
set_option linter.unusedVariables false
theorem ph_eq {h h' : SH} {o : Option SV} {v : SV} (hp : ph h o = some (v, h')) : o = some v ∧ h' = h := by
  simp only [ph, Option.map_eq_some_iff] at hp
  obtain ⟨x, h1, h2⟩ := hp
  cases h2
  exact ⟨h1, rfl⟩
theorem uns_eq {h h' : SH} {o : Option SH} {v : SV} (hp : uns h o = some (v, h')) : o = some h' ∧ v = .tup [] := by
  simp only [uns, Option.map_eq_some_iff] at hp
  obtain ⟨x, h1, h2⟩ := hp
  cases h2
  exact ⟨h1, rfl⟩
def quietOp : AO → Bool
  | .mv _ | .bin _ _ _ | .eq _ _ _ _ | .not _ | .neg _ | .xor _ | .toInt _ _ | .same _ | .toStr _ | .runeStr _ | .ld _ _ | .chk _ | .fa _ _ | .ia _ _ _ | .iaa _ _ _ _ | .ix _ _ _ _ _ | .ixs _ _ | .fld _ _ _ | .ext _ _ | .slc _ _ _ _ _ | .sls _ _ _ | .sla _ _ _ _ _
  | .len _ _ | .lkp _ _ _ _ _ | .pick _ _ _ | .mn _ | .mx _ | .build _ _ => true
  | _ => false
def OkQ (o : AO) (k : Nat) (w : Wd) (h : SH) (ch : AH) (v : SV) (h' : SH) (r : Option (AV × AH)) : Prop := Ok2 k w h ch v h' r ∧ (quietOp o = true → ∃ cv, r = some (cv, ch) ∧ RS w h.length v cv)
theorem okp {o : AO} {k : Nat} {w : Wd} {h : SH} {ch : AH} (r : RH w h ch) {v : SV} {cv : AV} {p : Option (AV × AH)} (ho : p = some (cv, ch)) (hv : RS w h.length v cv) : OkQ o k w h ch v h p := ⟨.pure r ho hv, fun _ => ⟨cv, ho, hv⟩⟩
theorem okn {o : AO} (hq : quietOp o = false) {k : Nat} {w : Wd} {h h' : SH} {ch : AH} {v : SV} {p : Option (AV × AH)} (ho : Ok2 k w h ch v h' p) : OkQ o k w h ch v h' p := ⟨ho, fun h => by rw [hq] at h; cases h⟩
theorem aop2_soundq {k : Nat} {w : Wd} {h h' : SH} {ch : AH} {e : SE} {ce : Env} (r : RH w h ch) (he : RE w h.length e ce) {o : AO} {v : SV} (ho : aop2 o e h = some (v, h')) : OkQ o k w h ch v h' (aop o ce ch) := by
  have E := fun x => evs_rs he x
  cases o with
  | mv x => cases ho; exact okp r rfl (E x)
  | pick c a b =>
    simp only [aop2] at ho
    have hc := E c
    split at ho <;> cases ho
    · rename_i e1; rw [e1] at hc; cases hc with | p hc =>
      generalize hz : ev ce c = z at hc
      cases hc with | b => exact okp r (by simp only [aop, hz]) (E a)
    · rename_i e1; rw [e1] at hc; cases hc with | p hc =>
      generalize hz : ev ce c = z at hc
      cases hc with | b => exact okp r (by simp only [aop, hz]) (E b)
  | bin op x y =>
    obtain ⟨h1, rfl⟩ := ph_eq ho
    split at h1
    · rename_i a b ha hb
      simp only [Option.map_eq_some_iff] at h1
      obtain ⟨c, hc, rfl⟩ := h1
      exact okp r (by simp only [aop, pureh, sc_eq (E x) ha, sc_eq (E y) hb, hc]; rfl) (usc_rs c)
    · cases h1
  | eq kd neg x y =>
    obtain ⟨h1, rfl⟩ := ph_eq ho
    simp only [Option.map_eq_some_iff] at h1
    obtain ⟨b, hb, rfl⟩ := h1
    exact okp r (by simp only [aop, pureh, aeq2_ok (E x) (E y) hb]; rfl) (.p (.b _))
  | not x =>
    obtain ⟨h1, rfl⟩ := ph_eq ho
    have hx := E x
    split at h1 <;> cases h1
    rename_i e1; rw [e1] at hx; cases hx with | p hx =>
    generalize hz : ev ce x = z at hx
    cases hx with | b => exact okp r (by simp only [aop, pureh, hz]; rfl) (.p (.b _))
  | neg x =>
    obtain ⟨h1, rfl⟩ := ph_eq ho
    have hx := E x
    split at h1 <;> cases h1
    rename_i e1; rw [e1] at hx; cases hx with | p hx =>
    generalize hz : ev ce x = z at hx
    cases hx with | i => exact okp r (by simp only [aop, pureh, hz]; rfl) (.p (.i _ _))
  | xor x =>
    obtain ⟨h1, rfl⟩ := ph_eq ho
    have hx := E x
    split at h1 <;> cases h1
    rename_i e1; rw [e1] at hx; cases hx with | p hx =>
    generalize hz : ev ce x = z at hx
    cases hx with | i => exact okp r (by simp only [aop, pureh, hz]; rfl) (usc_rs _)
  | toInt kd x =>
    obtain ⟨h1, rfl⟩ := ph_eq ho
    have hx := E x
    split at h1 <;> cases h1
    rename_i e1; rw [e1] at hx; cases hx with | p hx =>
    generalize hz : ev ce x = z at hx
    cases hx with | i => exact okp r (by simp only [aop, pureh, hz]; rfl) (.p (.i _ _))
  | same x =>
    obtain ⟨h1, rfl⟩ := ph_eq ho
    have hx := E x
    split at h1 <;> cases h1
    rename_i e1; rw [e1] at hx; cases hx with | p hx =>
    generalize hz : ev ce x = z at hx
    cases hx with | s => exact okp r (by simp only [aop, pureh, hz]; rfl) (.p (.s _))
  | runeStr x =>
    obtain ⟨h1, rfl⟩ := ph_eq ho
    have hx := E x
    split at h1
    · rename_i e1; rw [e1] at hx; cases hx with | p hx =>
      generalize hz : ev ce x = z at hx
      cases hx with | i =>
      split at h1 <;> cases h1
      rename_i hc
      exact okp r (by simp only [aop, pureh, hz]; rw [if_pos hc]; rfl) (.p (.s _))
    · cases h1
  | toStr x =>
    obtain ⟨h1, rfl⟩ := ph_eq ho
    split at h1
    · rename_i els hels
      simp only [Option.map_eq_some_iff] at h1
      obtain ⟨l, hl, rfl⟩ := h1
      obtain ⟨row, r1, r2, r3, r4⟩ := show2_ok r (by decide) (E x) hels
      exact okp r (by simp only [aop, pureh, r1, bytes2_ok r2 r3 hl]; rfl) (.p (.s _))
    · cases h1
  | toBytes x =>
    simp only [aop2] at ho
    have hx := E x
    split at ho
    · rename_i e1; rw [e1] at hx; cases hx with | p hx =>
      generalize hz : ev ce x = z at hx
      cases hx with | s =>
      rename_i l
      split at ho
      · rename_i hc
        cases ho
        have h4 : ElsR w.fro 1 (l.map fun c => [PV.i .u8 c.toNat]) (l.map fun c => AV.i .u8 c.toNat) 0 := by
          refine .of (by simp) (fun j el hj => ?_) (fun j el t c a hj ht hlt ha => ?_)
          · rw [List.getElem?_map] at hj
            cases hl : l[j]? with
            | none => simp [hl] at hj
            | some x => simp [hl] at hj; subst hj; rfl
          · rw [List.getElem?_map] at hj
            cases hl : l[j]? with
            | none => simp [hl] at hj
            | some x =>
              simp [hl] at hj; subst hj
              cases t with
              | zero => simp [hl] at ht ha; subst ht; subst ha; exact .i _ _
              | succ t => simp at ht
        refine okn rfl (.new r (cb := .row (l.map fun c : UInt8 => AV.i .u8 c.toNat) false) (len := l.length) (cv := .sl ch.next 0 l.length l.length 1) ?_ (.arr (by rw [add_rl]; simp) (by decide) h4) ?_)
        · simp only [aop, hz]; rw [if_pos hc]
        · have := RS.sl (w := w.add h.length ch.next l.length) (n := h.length + 1) (esz := 1) (id := h.length) (off := 0) (len := l.length) (cap := none) (ccap := l.length) (lo := 1) (Nat.lt_succ_self _) add_ρ (by decide) (by simp) (Nat.le_refl _) (.inr rfl) (by rw [add_rl]; omega)
          simpa using this
      · cases ho
    · cases ho
  | mark x =>
    simp only [aop2] at ho
    have hx := E x
    split at ho
    · rename_i esz id off len cap e1
      rw [e1] at hx
      split at ho
      · rename_i hb
        split at ho
        · rename_i hl
          cases ho
          generalize hz : ev ce x = z at hx
          cases hx with
          | sl hi h1 he hc hl2 hlo hr =>
            obtain ⟨cb, h2, h3⟩ := r.blk _ _ _ (bAt_eq hb) h1
            cases h3 with
            | arr a1 a2 a3 => exact okn rfl (.pure r (by simp only [aop, hz, h2]) (.sl hi h1 he hc hl2 hlo hr))
          | slv => exact (Nat.lt_irrefl _ hl).elim
        · cases ho
      · cases ho
    · cases ho
  | alloc z =>
    cases ho
    exact okn rfl (.new r (cb := .row z false) (len := z.length) rfl (.obj add_rl.symm (cst_map z)) (.ptr (Nat.lt_succ_self _) add_ρ))
  | box sz x =>
    simp only [aop2] at ho
    split at ho
    · rename_i cs hcs
      split at ho
      · rename_i hl
        cases ho
        obtain ⟨ccs, h1, h2⟩ := (E x).cl hcs
        refine okn rfl (.new r (cb := .row ccs false) (len := ccs.length) (cv := .ptr ch.next 0) ?_ (.obj add_rl.symm (h2.mono fun _ _ h => h.mono (r.addLe _) (Nat.le_succ _))) (.ptr (Nat.lt_succ_self _) add_ρ))
        simp only [aop, h1]
        rw [if_pos (by rw [← h2.1]; exact hl)]
      · cases ho
    · cases ho
  | build z ps =>
    obtain ⟨h1, rfl⟩ := ph_eq ho
    simp only [Option.map_eq_some_iff] at h1
    obtain ⟨cs, hcs, rfl⟩ := h1
    obtain ⟨ccs, h2, h3⟩ := fills2_ok he (cst_map z) hcs
    exact okp r (by simp only [aop, pureh, h2]; rfl) (.agg h3.1 h3.2)
  | bsl esz len z ps =>
    simp only [aop2] at ho
    split at ho
    · rename_i cs hcs
      split at ho
      · rename_i l hl
        split at ho
        · rename_i hc
          cases ho
          obtain ⟨ccs, h2, h3⟩ := fills2_ok he (cst_map z) hcs
          obtain rfl := pvs_eq hl
          have hpp : P2 (RP w.fro) l ccs := by
            refine ⟨by have := h3.1; simpa using this, fun j x y hx hy => ?_⟩
            have := h3.2 j (.p x) y (by simp [hx]) hy
            cases this with | p h => exact h
          have hlen : ccs.length = len * esz := by rw [← hpp.1]; exact hc.2
          refine okn rfl (.new r (cb := .row ccs false) (len := ccs.length) (cv := .sl ch.next 0 len len 0) ?_ (.arr add_rl.symm hc.1 (chunk_ok hc.1 hpp hc.2)) ?_)
          · simp only [aop, h2]
            rw [if_pos hlen]
          · have := RS.sl (w := w.add h.length ch.next ccs.length) (n := h.length + 1) (esz := esz) (id := h.length) (off := 0) (len := len) (cap := none) (ccap := len) (lo := 0) (Nat.lt_succ_self _) add_ρ hc.1 (by simp) (Nat.le_refl _) (.inl rfl) (by rw [add_rl]; omega)
            simpa using this
        · cases ho
      · split at ho
        · rename_i hc
          cases ho
          obtain ⟨ccs, h2, h3⟩ := fills2_ok he (cst_map z) hcs
          have hlen : ccs.length = len * esz := by rw [← h3.1]; exact hc
          refine okn rfl (.new r (cb := .row ccs false) (len := ccs.length) (cv := .sl ch.next 0 len len 0) ?_ (.obj add_rl.symm (h3.mono fun _ _ h => h.mono (r.addLe _) (Nat.le_succ _))) (.so (Nat.lt_succ_self _) add_ρ (Nat.le_refl _)))
          simp only [aop, h2]
          rw [if_pos hlen]
        · cases ho
    · cases ho
  | ld sz a =>
    obtain ⟨h1, rfl⟩ := ph_eq ho
    obtain ⟨cv, h2, h3⟩ := ld2_ok r (E a) h1
    exact okp r h2 h3
  | st sz a x =>
    obtain ⟨h1, rfl⟩ := uns_eq (h := h) ho
    exact okn rfl (st2_ok r (E a) (E x) h1)
  | chk x =>
    obtain ⟨h1, rfl⟩ := ph_eq ho
    obtain ⟨cv, h2, h3⟩ := chk2_ok (E x) h1
    exact okp r (by simp only [aop, pureh, h2]; rfl) h3
  | fa off a =>
    obtain ⟨h1, rfl⟩ := ph_eq ho
    obtain ⟨id, o, h2, h3⟩ := fa2_ok (E a) h1
    exact okp r (by simp only [aop, pureh, h2]; rfl) h3
  | ia esz x ix =>
    obtain ⟨h1, rfl⟩ := ph_eq ho
    obtain ⟨cv, h2, h3⟩ := ia2_ok (E x) (E ix) h1
    exact okp r (by simp only [aop, pureh, h2]; rfl) h3
  | iaa m esz x ix =>
    obtain ⟨h1, rfl⟩ := ph_eq ho
    obtain ⟨cv, h2, h3⟩ := iaa2_ok (E x) (E ix) h1
    exact okp r (by simp only [aop, pureh, h2]; rfl) h3
  | ix m esz ag x ix =>
    obtain ⟨h1, rfl⟩ := ph_eq ho
    obtain ⟨cv, h2, h3⟩ := ix2_ok (E x) (E ix) h1
    exact okp r (by simp only [aop, pureh, h2]; rfl) h3
  | ixs x ix =>
    obtain ⟨h1, rfl⟩ := ph_eq ho
    obtain ⟨cv, h2, h3⟩ := ixs2_ok (E x) (E ix) h1
    exact okp r (by simp only [aop, pureh, h2]; rfl) h3
  | fld off sz x =>
    obtain ⟨h1, rfl⟩ := ph_eq ho
    obtain ⟨cv, h2, h3⟩ := fld2_ok (E x) h1
    exact okp r (by simp only [aop, pureh, h2]; rfl) h3
  | ext ix x =>
    obtain ⟨h1, rfl⟩ := ph_eq ho
    obtain ⟨cv, h2, h3⟩ := ext2_ok (E x) h1
    exact okp r (by simp only [aop, pureh, h2]; rfl) h3
  | slc esz x lo hi mx =>
    obtain ⟨h1, rfl⟩ := ph_eq ho
    obtain ⟨cv, h2, h3⟩ := slc2_ok (E x) (or_map he lo) (or_map he hi) (or_map he mx) h1
    exact okp r (by simp only [aop, pureh, h2]; rfl) h3
  | sls x lo hi =>
    obtain ⟨h1, rfl⟩ := ph_eq ho
    obtain ⟨cv, h2, h3⟩ := sls2_ok (E x) (or_map he lo) (or_map he hi) h1
    exact okp r (by simp only [aop, pureh, h2]; rfl) h3
  | sla m esz x lo hi =>
    obtain ⟨h1, rfl⟩ := ph_eq ho
    obtain ⟨cv, h2, h3⟩ := sla2_ok (E x) (or_map he lo) (or_map he hi) h1
    exact okp r (by simp only [aop, pureh, h2]; rfl) h3
  | mks esz bytes z l c => exact okn rfl (mks2_ok r (E l) (E c) ho)
  | mkm =>
    cases ho
    exact okn rfl (.new r (cb := .map [] 0) (len := 0) rfl (.map .nil Bo.nil) (.mp (Nat.lt_succ_self _) add_ρ))
  | lkp kk z ok m x =>
    obtain ⟨h1, rfl⟩ := ph_eq ho
    obtain ⟨cv, h2, h3⟩ := lkp2_ok r (E m) (E x) h1
    exact okp r h2 h3
  | mup kk m x v =>
    obtain ⟨h1, rfl⟩ := uns_eq (h := h) ho
    exact okn rfl (mup2_ok r (E m) (E x) (E v) h1)
  | ment => cases ho
  | mst => cases ho
  | mkf f first cap =>
    simp only [aop2] at ho
    split at ho
    · rename_i hc
      cases ho
      obtain ⟨q1, a1, a2, a3⟩ := ptrs_ok (evs_map he first) hc.1
      obtain ⟨q2, b1, b2, b3⟩ := ptrs_ok (evs_map he cap) hc.2
      exact okp r (by simp only [aop, pureh, a1, b1]; rfl) (.fn a2 a3 b2 b3)
    · cases ho
  | call => cases ho
  | callv => cases ho
  | len kd x =>
    obtain ⟨h1, rfl⟩ := ph_eq ho
    obtain ⟨cv, h2, h3⟩ := len2_ok r (E x) h1
    exact okp r (by simp only [aop, pureh, h2]; rfl) h3
  | app esz bytes s x =>
    simp only [aop2] at ho
    split at ho
    · rename_i hx
      have hE := E x
      rw [hx] at hE
      exact okn rfl (appo2_ok r (E s) hE ho)
    · exact okn rfl (app2_ok r (E s) (E x) ho)
  | cpy esz d s => exact okn rfl (cpy2_ok r (E d) (E s) ho)
  | mn l =>
    obtain ⟨h1, rfl⟩ := ph_eq ho
    split at h1
    · rename_i x l' hl
      simp only [Option.map_eq_some_iff] at h1
      obtain ⟨c, hc, rfl⟩ := h1
      exact okp r (by simp only [aop, pureh, scs_eq (evs_map he l) hl, hc]; rfl) (usc_rs c)
    · cases h1
  | mx l =>
    obtain ⟨h1, rfl⟩ := ph_eq ho
    split at h1
    · rename_i x l' hl
      simp only [Option.map_eq_some_iff] at h1
      obtain ⟨c, hc, rfl⟩ := h1
      exact okp r (by simp only [aop, pureh, scs_eq (evs_map he l) hl, hc]; rfl) (usc_rs c)
    · cases h1
  | del kk m x =>
    obtain ⟨h1, rfl⟩ := uns_eq (h := h) ho
    exact okn rfl (del2_ok r (E m) (E x) h1)
  | clr esz z x => exact okn rfl (clr2_ok r (E x) ho)
theorem aop2_sound {k : Nat} {w : Wd} {h h' : SH} {ch : AH} {e : SE} {ce : Env} (r : RH w h ch) (he : RE w h.length e ce) {o : AO} {v : SV} (ho : aop2 o e h = some (v, h')) : Ok2 k w h ch v h' (aop o ce ch) := (aop2_soundq r he ho).1
theorem aop2_quiet {w : Wd} {h h' : SH} {ch : AH} {e : SE} {ce : Env} (r : RH w h ch) (he : RE w h.length e ce) {o : AO} {v : SV} (ho : aop2 o e h = some (v, h')) (hq : quietOp o = true) : ∃ cv, aop o ce ch = some (cv, ch) ∧ RS w h.length v cv := (aop2_soundq (k := 0) r he ho).2 hq
end Go.Proofs.Ytadbipeachcekaa.Ab
/- The second machine: a logic. -/
namespace Go.Proofs.Ytadbipeachcekaa.Ab
open Go
set_option linter.unusedVariables false
/-- a call: from any memory that is as told it comes to a value and a memory as told; the rest stays -/
structure Ret2 (T : AT) (k f : Nat) (args : List SV) (h : SH) (R : SV → SH → Prop) : Prop where
  run : ∀ w cargs ch, RH w h ch → P2 (RS w h.length) args cargs → ∃ n cv ch' w' v h', exN T n f cargs ch = some (cv, ch') ∧ R v h' ∧ RH w' h' ch' ∧ RS w' h'.length v cv ∧ Fr k w h ch w' h' ch'
structure W2 (T : AT) (k : Nat) (c : AC) (e : SE) (h : SH) (Q : XT → SE → SH → Prop) : Prop where
  run : ∀ w ce ch, RH w h ch → RE w h.length e ce → ∃ n t ce' ch' w' e' h', exC (exN T n) n c ce ch = some (t, ce', ch') ∧ Q t e' h' ∧ RH w' h' ch' ∧ RE w' h'.length e' ce' ∧ Fr k w h ch w' h' ch'
structure WO2 (T : AT) (k : Nat) (ops : List AOp) (e : SE) (h : SH) (K : SE → SH → Prop) : Prop where
  run : ∀ w ce ch, RH w h ch → RE w h.length e ce → ∃ n ce' ch' w' e' h', exOps (exN T n) ops ce ch = some (ce', ch') ∧ K e' h' ∧ RH w' h' ch' ∧ RE w' h'.length e' ce' ∧ Fr k w h ch w' h' ch'
def guarded2 (e : SE) : Option (Nat × Bool) → Option Bool
  | none => some true
  | some (s, w) =>
    match eg e s with
    | .p (.b x) => some (x == w)
    | .tup [] => some false
    | _ => none
theorem guarded2_ok {w : Wd} {n : Nat} {e : SE} {ce : Env} (he : RE w n e ce) {g : Option (Nat × Bool)} {b : Bool} (hg : guarded2 e g = some b) : guarded ce g = some b := by
  cases g with
  | none => exact hg
  | some q =>
    obtain ⟨s, x⟩ := q
    have h := he s
    simp only [guarded2, guarded] at hg ⊢
    split at hg
    · rename_i e1
      rw [e1] at h
      cases h with | p h =>
      generalize eget ce s = z at h
      cases h with | b => exact hg
    · rename_i e1
      rw [e1] at h
      generalize eget ce s = z at h
      cases h with
      | tup h1 h2 =>
        rename_i ccs
        have : ccs = [] := List.length_eq_zero_iff.1 h1.symm
        subst this
        exact hg
    · cases hg
inductive Nx2 where
  | go | call (f : Nat) (args : List SV) | bad
def nxt2 (o : AO) (e : SE) : Nx2 :=
  match o with
  | .call f args => .call f (args.map (evs e))
  | .callv x args =>
    match evs e x with
    | .fn g first cap => .call g (first ++ args.map (evs e) ++ cap)
    | _ => .bad
  | _ => .go
structure Stop2 where
  d : Option Nat
  f : Nat
  args : List SV
  rest : List AOp
def run2 : List AOp → SE → SH → Option (SE × SH × Option Stop2)
  | [], e, h => some (e, h, none)
  | ⟨d, g, o⟩ :: r, e, h =>
    match guarded2 e g with
    | some true =>
      match nxt2 o e with
      | .call f args => some (e, h, some ⟨d, f, args, r⟩)
      | .go =>
        match aop2 o e h with
        | some (v, h') => run2 r (epu e d v) h'
        | none => none
      | .bad => none
    | some false => run2 r (epu e d (.tup [])) h
    | none => none
theorem nxt2_go {C : CallF} {o : AO} {e : SE} {ce : Env} {ch : AH} (hc : nxt2 o e = .go) : exOp C o ce ch = aop o ce ch := by
  cases o with
  | call => simp [nxt2] at hc
  | callv => simp only [nxt2] at hc; split at hc <;> simp at hc
  | _ => rfl
theorem nxt2_call {w : Wd} {n : Nat} {o : AO} {e : SE} {ce : Env} (he : RE w n e ce) {f : Nat} {args : List SV} (hc : nxt2 o e = .call f args) : ∃ cargs, (∀ C ch, exOp C o ce ch = C f cargs ch) ∧ P2 (RS w n) args cargs := by
  unfold nxt2 at hc
  split at hc
  · cases hc; exact ⟨_, fun _ _ => rfl, evs_map he _⟩
  · rename_i x args'
    have hx := evs_rs he x
    split at hc
    · rename_i e1
      cases hc
      rw [e1] at hx
      generalize hz : ev ce x = z at hx
      cases hx with
      | fn h1 h2 h3 h4 =>
        refine ⟨_, fun C ch => by simp only [exOp, hz]; rfl, ?_⟩
        refine P2.append (P2.append (P2.map_right ⟨h1, h2⟩) (evs_map he args')) (P2.map_right ⟨h3, h4⟩)
    · cases hc
  · cases hc
section
variable {T : AT} {k : Nat} {Q : XT → SE → SH → Prop} {K : SE → SH → Prop} {e : SE} {h : SH}
theorem Ret2.mono {f : Nat} {args : List SV} {R R' : SV → SH → Prop} (r : Ret2 T k f args h R) (hr : ∀ v h', R v h' → R' v h') : Ret2 T k f args h R' :=
  ⟨fun w ca ch h1 h2 => by obtain ⟨n, cv, ch', w', v, h', a1, a2, a3⟩ := r.run w ca ch h1 h2; exact ⟨n, cv, ch', w', v, h', a1, hr _ _ a2, a3⟩⟩
theorem W2.mono {c : AC} {Q' : XT → SE → SH → Prop} (r : W2 T k c e h Q) (hr : ∀ t e h, Q t e h → Q' t e h) : W2 T k c e h Q' :=
  ⟨fun w ca ch h1 h2 => by obtain ⟨n, t, ce', ch', w', e', h', a1, a2, a3⟩ := r.run w ca ch h1 h2; exact ⟨n, t, ce', ch', w', e', h', a1, hr _ _ _ a2, a3⟩⟩
theorem WO2.mono {l : List AOp} {K' : SE → SH → Prop} (r : WO2 T k l e h K) (hr : ∀ e h, K e h → K' e h) : WO2 T k l e h K' :=
  ⟨fun w ca ch h1 h2 => by obtain ⟨n, ce', ch', w', e', h', a1, a2, a3⟩ := r.run w ca ch h1 h2; exact ⟨n, ce', ch', w', e', h', a1, hr _ _ a2, a3⟩⟩
theorem WO2_nil (hk : K e h) : WO2 T k [] e h K := ⟨fun w ce ch h1 h2 => ⟨0, ce, ch, w, e, h, rfl, hk, h1, h2, .refl _ _ _ _⟩⟩
/-- what comes behind an operation, or a call, that is sound -/
theorem WO2_step {o : AOp} {l : List AOp} (hs : ∀ w ce ch, RH w h ch → RE w h.length e ce → ∃ n cv ch' w' e' h', stepOp (exN T n) o ce ch = some (cv, ch') ∧ RH w' h' ch' ∧ RE w' h'.length e' (eput ce o.d cv) ∧ Fr k w h ch w' h' ch' ∧ WO2 T k l e' h' K) : WO2 T k (o :: l) e h K := by
  refine ⟨fun w ce ch h1 h2 => ?_⟩
  obtain ⟨n, cv, ch1, w1, e1, h1', a1, a2, a3, a4, a5⟩ := hs w ce ch h1 h2
  obtain ⟨m, ce2, ch2, w2, e2, h2', b1, b2, b3, b4, b5⟩ := a5.run w1 _ ch1 a2 a3
  refine ⟨max n m, ce2, ch2, w2, e2, h2', ?_, b2, b3, b4, a4.trans b5⟩
  simp only [exOps, stepOp_le (exN_le (Nat.le_max_left n m)) a1]
  exact exOps_le (exN_le (Nat.le_max_right n m)) b1
theorem WO2_op {d : Option Nat} {g : Option (Nat × Bool)} {o : AO} {l : List AOp} {v : SV} {h' : SH} (hg : guarded2 e g = some true) (hn : nxt2 o e = .go) (ho : aop2 o e h = some (v, h')) (hk : WO2 T k l (epu e d v) h' K) : WO2 T k (⟨d, g, o⟩ :: l) e h K := by
  refine WO2_step fun w ce ch h1 h2 => ?_
  obtain ⟨cv, ch', w', a1, a2, a3, a4, a5, a6⟩ := aop2_sound (k := k) h1 h2 ho
  refine ⟨0, cv, ch', w', _, h', ?_, a2, (h2.mono a4 a5).put a3 d, a6, hk⟩
  simp only [stepOp, guarded2_ok h2 hg, nxt2_go hn]
  exact a1
theorem WO2_skip {d : Option Nat} {g : Option (Nat × Bool)} {o : AO} {l : List AOp} (hg : guarded2 e g = some false) (hk : WO2 T k l (epu e d (.tup [])) h K) : WO2 T k (⟨d, g, o⟩ :: l) e h K := by
  refine WO2_step fun w ce ch h1 h2 => ⟨0, .tup [], ch, w, _, h, ?_, h1, h2.put rs_unit d, .refl _ _ _ _, hk⟩
  simp only [stepOp, guarded2_ok h2 hg]
/-- what is wanted where a run stops at a call -/
def CK (T : AT) (k : Nat) (K : SE → SH → Prop) (e : SE) (h : SH) : Option Stop2 → Prop
  | none => K e h
  | some s => ∀ w ce ch cargs, RH w h ch → RE w h.length e ce → P2 (RS w h.length) s.args cargs → ∃ n cv ch' w' e' h', exN T n s.f cargs ch = some (cv, ch') ∧ RH w' h' ch' ∧ RE w' h'.length e' (eput ce s.d cv) ∧ Fr k w h ch w' h' ch' ∧ WO2 T k s.rest e' h' K
theorem run2_sound : ∀ {l : List AOp} {e e' : SE} {h h' : SH} {s : Option Stop2}, run2 l e h = some (e', h', s) → CK T k K e' h' s → WO2 T k l e h K
  | [], e, e', h, h', s, hr, hk => by cases hr; exact WO2_nil hk
  | ⟨d, g, o⟩ :: l, e, e', h, h', s, hr, hk => by
    simp only [run2] at hr
    split at hr
    · rename_i hg
      split at hr
      · rename_i hc
        cases hr
        refine WO2_step fun w ce ch h1 h2 => ?_
        obtain ⟨cargs, q1, q2⟩ := nxt2_call h2 hc
        obtain ⟨n, cv, ch', w', e', h', a1, a2, a3, a4, a5⟩ := hk w ce ch cargs h1 h2 q2
        refine ⟨n, cv, ch', w', e', h', ?_, a2, a3, a4, a5⟩
        simp only [stepOp, guarded2_ok h2 hg, q1]
        exact a1
      · rename_i hc
        split at hr
        · rename_i ha
          exact WO2_op hg hc ha (run2_sound hr hk)
        · cases hr
      · cases hr
    · rename_i hg; exact WO2_skip hg (run2_sound hr hk)
    · cases hr
def runK2 (ops : List AOp) (kp : List Nat) (e : SE) (h : SH) : Option (SE × SH) :=
  match run2 ops e h with
  | some (e', h', none) => some (kp.map fun s => (s, eg e' s), h')
  | _ => none
theorem keep2 {w : Wd} {n : Nat} {e : SE} {ce : Env} (he : RE w n e ce) : ∀ (kp : List Nat), RE w n (kp.map fun s => (s, eg e s)) (keepE kp ce)
  | [], s => .un
  | a :: kp, s => by
    simp only [keepE, List.map_cons, eg, eget]
    split
    · exact he a
    · exact keep2 he kp s
theorem W2_reg {ops : List AOp} {kp : List Nat} (ho : WO2 T k ops e h fun e' h' => Q .nrm (kp.map fun s => (s, eg e' s)) h') : W2 T k (.reg ops kp) e h Q := by
  refine ⟨fun w ce ch h1 h2 => ?_⟩
  obtain ⟨n, ce1, ch1, w1, e1, h1', a1, a2, a3, a4, a5⟩ := ho.run w ce ch h1 h2
  exact ⟨n, .nrm, _, ch1, w1, _, h1', by simp only [exC, a1], a2, a3, keep2 a4 kp, a5⟩
theorem exOps_tr {C : CallF} : ∀ {l : List AOp} {e : Env} {h : AH} {e' : Env} {h' : AH}, exOps C l e h = some (e', h') → ∃ tr, exTr C l e h = some (tr, e', h')
  | [], e, h, e', h', hr => by simp [exOps] at hr; exact ⟨[], by simp [exTr, hr]⟩
  | o :: l, e, h, e', h', hr => by
    simp only [exOps] at hr
    split at hr
    · rename_i hs
      obtain ⟨tr, ht⟩ := exOps_tr hr
      exact ⟨(_, _, _) :: tr, by simp only [exTr, hs, ht]; rfl⟩
    · cases hr
theorem W2_regd {ops : List AOp} {kp : List Nat} (ho : WO2 T k ops e h fun e' h' => Q .nrm (kp.map fun s => (s, eg e' s)) h') : W2 T k (.regd ops [] kp) e h Q := by
  refine ⟨fun w ce ch h1 h2 => ?_⟩
  obtain ⟨n, ce1, ch1, w1, e1, h1', a1, a2, a3, a4, a5⟩ := ho.run w ce ch h1 h2
  obtain ⟨tr, ht⟩ := exOps_tr a1
  exact ⟨n, .nrm, _, ch1, w1, _, h1', by simp only [exC, ht, rcOk, List.all_nil, if_true], a2, a3, keep2 a4 kp, a5⟩
theorem W2_skip (hq : Q .nrm e h) : W2 T k .skip e h Q := ⟨fun w ce ch h1 h2 => ⟨0, _, _, _, _, _, _, rfl, hq, h1, h2, .refl _ _ _ _⟩⟩
theorem W2_ret (hq : Q .ret e h) : W2 T k .ret e h Q := ⟨fun w ce ch h1 h2 => ⟨0, _, _, _, _, _, _, rfl, hq, h1, h2, .refl _ _ _ _⟩⟩
theorem W2_exit {i : Nat} (hq : Q (.ex i) e h) : W2 T k (.exit i) e h Q := ⟨fun w ce ch h1 h2 => ⟨0, _, _, _, _, _, _, rfl, hq, h1, h2, .refl _ _ _ _⟩⟩
def thn2 (K : SE → SH → Prop) (Q : XT → SE → SH → Prop) : XT → SE → SH → Prop
  | .nrm, e, h => K e h
  | .ret, e, h => Q .ret e h
  | .ex i, e, h => Q (.ex i) e h
def blk2 (i : Nat) (Q : XT → SE → SH → Prop) : XT → SE → SH → Prop
  | .ex j, e, h => if j = i then Q .nrm e h else Q (.ex j) e h
  | .nrm, e, h => Q .nrm e h
  | .ret, e, h => Q .ret e h
theorem W2_seq {a b : AC} (ha : W2 T k a e h (thn2 (fun e h => W2 T k b e h Q) Q)) : W2 T k (.seq a b) e h Q := by
  refine ⟨fun w ce ch h1 h2 => ?_⟩
  obtain ⟨n, t, ce1, ch1, w1, e1, h1', a1, a2, a3, a4, a5⟩ := ha.run w ce ch h1 h2
  cases t with
  | nrm =>
    obtain ⟨m, t', ce2, ch2, w2, e2, h2', b1, b2, b3, b4, b5⟩ := W2.run a2 w1 ce1 ch1 a3 a4
    refine ⟨max n m, t', ce2, ch2, w2, e2, h2', ?_, b2, b3, b4, a5.trans b5⟩
    simp only [exC, exC_le (exN_le (Nat.le_max_left n m)) (Nat.le_max_left n m) a1]
    exact exC_le (exN_le (Nat.le_max_right n m)) (Nat.le_max_right n m) b1
  | ret => exact ⟨n, _, ce1, ch1, w1, e1, h1', by simp only [exC, a1], a2, a3, a4, a5⟩
  | ex i => exact ⟨n, _, ce1, ch1, w1, e1, h1', by simp only [exC, a1], a2, a3, a4, a5⟩
theorem W2_true {c : AX} {a b : AC} (hc : evs e c = .b true) (ha : W2 T k a e h Q) : W2 T k (.cond c a b) e h Q := by
  refine ⟨fun w ce ch h1 h2 => ?_⟩
  have hv := evs_rs h2 c
  rw [hc] at hv
  generalize hz : ev ce c = z at hv
  cases hv with | p hv => cases hv with | b =>
  obtain ⟨n, t, ce1, ch1, w1, e1, h1', a1, a2⟩ := ha.run w ce ch h1 h2
  exact ⟨n, t, ce1, ch1, w1, e1, h1', by simp only [exC, hz]; exact a1, a2⟩
theorem W2_false {c : AX} {a b : AC} (hc : evs e c = .b false) (ha : W2 T k b e h Q) : W2 T k (.cond c a b) e h Q := by
  refine ⟨fun w ce ch h1 h2 => ?_⟩
  have hv := evs_rs h2 c
  rw [hc] at hv
  generalize hz : ev ce c = z at hv
  cases hv with | p hv => cases hv with | b =>
  obtain ⟨n, t, ce1, ch1, w1, e1, h1', a1, a2⟩ := ha.run w ce ch h1 h2
  exact ⟨n, t, ce1, ch1, w1, e1, h1', by simp only [exC, hz]; exact a1, a2⟩
theorem W2_cond {c : AX} {a b : AC} {x : Bool} (hc : evs e c = .b x) (ha : x = true → W2 T k a e h Q) (hb : x = false → W2 T k b e h Q) : W2 T k (.cond c a b) e h Q := by
  cases x
  · exact W2_false hc (hb rfl)
  · exact W2_true hc (ha rfl)
theorem W2_block {i : Nat} {b : AC} (hb : W2 T k b e h (blk2 i Q)) : W2 T k (.block i b) e h Q := by
  refine ⟨fun w ce ch h1 h2 => ?_⟩
  obtain ⟨n, t, ce1, ch1, w1, e1, h1', a1, a2, a3, a4, a5⟩ := hb.run w ce ch h1 h2
  cases t with
  | nrm => exact ⟨n, _, ce1, ch1, w1, e1, h1', by simp only [exC, a1], a2, a3, a4, a5⟩
  | ret => exact ⟨n, _, ce1, ch1, w1, e1, h1', by simp only [exC, a1], a2, a3, a4, a5⟩
  | ex j =>
    simp only [blk2] at a2
    split at a2
    · rename_i hj; exact ⟨n, _, ce1, ch1, w1, e1, h1', by simp only [exC, a1, hj, if_true], a2, a3, a4, a5⟩
    · rename_i hj; exact ⟨n, _, ce1, ch1, w1, e1, h1', by simp only [exC, a1, hj, if_false], a2, a3, a4, a5⟩
/-- a loop, by a number that falls -/
theorem W2_loop {b : AC} (I : Nat → SE → SH → Prop) (m : Nat) (h0 : I m e h) (hb : ∀ m e h, I m e h → W2 T k b e h (thn2 (fun e' h' => ∃ m', m' < m ∧ I m' e' h') Q)) : W2 T k (.loop b) e h Q := by
  induction m using Nat.strongRecOn generalizing e h with
  | _ m ih =>
    refine ⟨fun w ce ch h1 h2 => ?_⟩
    obtain ⟨n, t, ce1, ch1, w1, e1, h1', a1, a2, a3, a4, a5⟩ := (hb m e h h0).run w ce ch h1 h2
    cases t with
    | nrm =>
      obtain ⟨m', hm, hI⟩ := a2
      obtain ⟨n2, t', ce2, ch2, w2, e2, h2', b1, b2, b3, b4, b5⟩ := (ih m' hm hI).run w1 ce1 ch1 a3 a4
      refine ⟨max n n2 + 1, t', ce2, ch2, w2, e2, h2', ?_, b2, b3, b4, a5.trans b5⟩
      simp only [exC, exL] at b1 ⊢
      rw [exC_le (exN_le (by omega)) (by omega) a1]
      exact exL_le (fun hb => exC_le (exN_le (by omega)) (by omega) hb) (by omega) b1
    | ret =>
      refine ⟨n + 1, _, ce1, ch1, w1, e1, h1', ?_, a2, a3, a4, a5⟩
      simp only [exC, exL]
      rw [exC_le (exN_le (by omega)) (by omega) a1]
    | ex i =>
      refine ⟨n + 1, _, ce1, ch1, w1, e1, h1', ?_, a2, a3, a4, a5⟩
      simp only [exC, exL]
      rw [exC_le (exN_le (by omega)) (by omega) a1]
/-- one round of a loop -/
theorem W2_unroll {b : AC} (hb : W2 T k b e h (thn2 (fun e' h' => W2 T k (.loop b) e' h' Q) Q)) : W2 T k (.loop b) e h Q := by
  refine ⟨fun w ce ch h1 h2 => ?_⟩
  obtain ⟨n, t, ce1, ch1, w1, e1, h1', a1, a2, a3, a4, a5⟩ := hb.run w ce ch h1 h2
  cases t with
  | nrm =>
    obtain ⟨n2, t', ce2, ch2, w2, e2, h2', b1, b2, b3, b4, b5⟩ := W2.run a2 w1 ce1 ch1 a3 a4
    refine ⟨max n n2 + 1, t', ce2, ch2, w2, e2, h2', ?_, b2, b3, b4, a5.trans b5⟩
    simp only [exC, exL] at b1 ⊢
    rw [exC_le (exN_le (by omega)) (by omega) a1]
    exact exL_le (fun hb => exC_le (exN_le (by omega)) (by omega) hb) (by omega) b1
  | ret =>
    refine ⟨n + 1, _, ce1, ch1, w1, e1, h1', ?_, a2, a3, a4, a5⟩
    simp only [exC, exL]
    rw [exC_le (exN_le (by omega)) (by omega) a1]
  | ex i =>
    refine ⟨n + 1, _, ce1, ch1, w1, e1, h1', ?_, a2, a3, a4, a5⟩
    simp only [exC, exL]
    rw [exC_le (exN_le (by omega)) (by omega) a1]
variable {e' : SE} {h' : SH}
theorem W2_run {ops : List AOp} {kp : List Nat} (hr : runK2 ops kp e h = some (e', h')) (hq : Q .nrm e' h') : W2 T k (.reg ops kp) e h Q := by
  unfold runK2 at hr
  split at hr
  · rename_i h1; cases hr; exact W2_reg (run2_sound h1 hq)
  · cases hr
theorem W2_rund {ops : List AOp} {kp : List Nat} (hr : runK2 ops kp e h = some (e', h')) (hq : Q .nrm e' h') : W2 T k (.regd ops [] kp) e h Q := by
  unfold runK2 at hr
  split at hr
  · rename_i h1; cases hr; exact W2_regd (run2_sound h1 hq)
  · cases hr
theorem WO2_fin {l : List AOp} {kp : List Nat} (hr : runK2 l kp e h = some (e', h')) (hq : Q .nrm e' h') : WO2 T k l e h fun e h => Q .nrm (kp.map fun s => (s, eg e s)) h := by
  unfold runK2 at hr
  split at hr
  · rename_i h1; cases hr; exact run2_sound h1 hq
  · cases hr
/-! ### results -/
def ares2 (r : RV) (e : SE) (h : SH) : Option SV :=
  match r with
  | .t n => some (eg e n)
  | .cell n sz => ld2 sz (eg e n) h
def aress2 : List RV → SE → SH → Option (List SV)
  | [], _, _ => some []
  | r :: rs, e, h =>
    match ares2 r e h, aress2 rs e h with
    | some v, some vs => some (v :: vs)
    | _, _ => none
def SV.isTup : SV → Bool
  | .tup _ => true
  | .un => true
  | .alt _ _ => true
  | _ => false
def tie2 : List SV → Option SV
  | [v] => some v
  | vs => if vs.any SV.isTup then none else some (.tup vs)
theorem RS.ntup {w : Wd} {n : Nat} {v : SV} {a : AV} (h : RS w n v a) (hv : v.isTup = false) : a.isTup = false := by
  cases h with
  | p h => cases h <;> rfl
  | tup => cases hv
  | un => cases hv
  | altT => cases hv
  | altF => cases hv
  | _ => rfl
theorem aress2_ok {w : Wd} {ch : AH} {ce : Env} (r : RH w h ch) (he : RE w h.length e ce) : ∀ {rs : List RV} {vs : List SV}, aress2 rs e h = some vs → ∃ cvs, aress rs ce ch = some cvs ∧ P2 (RS w h.length) vs cvs
  | [], vs, hv => by cases hv; exact ⟨[], rfl, .nil⟩
  | x :: rs, vs, hv => by
    simp only [aress2] at hv
    split at hv
    · rename_i v vs' h1 h2
      cases hv
      obtain ⟨cvs, h3, h4⟩ := aress2_ok r he h2
      cases x with
      | t n =>
        cases h1
        exact ⟨_, by simp only [aress, ares, h3], .cons (he n) h4⟩
      | cell n sz =>
        obtain ⟨cv, h5, h6⟩ := ld2_ok r (he n) h1
        exact ⟨_, by simp only [aress, ares, h3, h5, Option.map_some], .cons h6 h4⟩
    · cases hv
theorem tie2_ok {w : Wd} {n : Nat} {vs : List SV} {cvs : List AV} {v : SV} (hp : P2 (RS w n) vs cvs) (ht : tie2 vs = some v) : ∃ cv, tie cvs = some cv ∧ RS w n v cv := by
  unfold tie2 at ht
  split at ht
  · cases ht
    match cvs, hp with
    | [c], hp => exact ⟨c, rfl, hp.2 0 _ c rfl rfl⟩
    | [], hp => have := hp.1; simp at this
    | _ :: _ :: _, hp => have := hp.1; simp at this
  · rename_i hne
    split at ht
    · cases ht
    · rename_i hall
      cases ht
      have hall' : cvs.any AV.isTup = false := by
        rw [List.any_eq_false]
        intro a ha
        obtain ⟨j, hj⟩ := List.mem_iff_getElem?.1 ha
        have hj' : j < vs.length := by rw [hp.1]; exact (List.getElem?_eq_some_iff.1 hj).1
        have h1 := hp.2 j vs[j] a (List.getElem?_eq_getElem hj') hj
        have h2 : vs[j].isTup = false := by
          cases hb : vs[j].isTup with
          | false => rfl
          | true => exact (hall (List.any_eq_true.2 ⟨_, List.getElem_mem hj', hb⟩)).elim
        rw [h1.ntup h2]; simp
      refine ⟨.tup cvs, ?_, .tup hp.1 hp.2⟩
      match cvs, hp, hall' with
      | [c], hp, _ =>
        match vs, hp with
        | [v], _ => exact (hne v rfl).elim
        | [], hp => have := hp.1; simp at this
        | _ :: _ :: _, hp => have := hp.1; simp at this
      | [], _, hall' => rfl
      | _ :: _ :: _, _, hall' => simp only [tie, hall']; rfl
def bindS : Nat → List SV → SE
  | _, [] => []
  | j, v :: r => (j, v) :: bindS (j + 1) r
theorem bindS_ok {w : Wd} {n : Nat} : ∀ {vs : List SV} {cvs : List AV} {j : Nat}, P2 (RS w n) vs cvs → RE w n (bindS j vs) (bindA j cvs)
  | [], cvs, j, hp, s => .un
  | v :: vs, cvs, j, hp, s => by
    cases cvs with
    | nil => have := hp.1; simp at this
    | cons c cvs =>
      simp only [bindS, bindA, eg, eget]
      split
      · exact hp.2 0 v c rfl rfl
      · exact bindS_ok (vs := vs) (cvs := cvs) ⟨by have := hp.1; simpa using this, fun i x y hx hy => hp.2 (i + 1) x y (by simpa using hx) (by simpa using hy)⟩ s
/-- a function of the table -/
theorem Ret2_fn {f : Nat} {F : AFun} {np : Nat} {res : List RV} {body : AC} (hf : T f = some (.fn F)) (hF : F = ⟨np, res, body⟩) {args : List SV} {R : SV → SH → Prop} (hn : args.length = np)
    (hw : W2 T k body (bindS 0 args) h fun t e' h' => (t = .nrm ∨ t = .ret) ∧ ∃ vs v, aress2 res e' h' = some vs ∧ tie2 vs = some v ∧ R v h') : Ret2 T k f args h R := by
  subst hF
  refine ⟨fun w ca ch h1 h2 => ?_⟩
  obtain ⟨n, t, ce', ch', w', e', h', a1, a2, a3, a4, a5⟩ := hw.run w _ ch h1 (bindS_ok h2)
  obtain ⟨ht, vs, v, b1, b2, b3⟩ := a2
  obtain ⟨cvs, c1, c2⟩ := aress2_ok a3 a4 b1
  obtain ⟨cv, c3, c4⟩ := tie2_ok c2 b2
  refine ⟨n + 1, cv, ch', w', v, h', ?_, b3, a3, c4, a5⟩
  simp only [exN, hf, exF]
  rw [if_pos (by rw [← h2.1]; exact hn)]
  rcases ht with rfl | rfl <;> simp [a1, c1, c3]
theorem Ret2_spec {f : Nat} {g : List AV → Option AV} (hf : T f = some (.spec g)) {args : List SV} {v : SV} {R : SV → SH → Prop} (hg : ∀ (w : Wd) cargs, P2 (RS w h.length) args cargs → ∃ cv, g cargs = some cv ∧ RS w h.length v cv) (hr : R v h) : Ret2 T k f args h R := by
  refine ⟨fun w ca ch h1 h2 => ?_⟩
  obtain ⟨cv, h3, h4⟩ := hg w ca h2
  exact ⟨1, cv, ch, w, v, h, by simp [exN, hf, h3], hr, h1, h4, .refl _ _ _ _⟩
end
end Go.Proofs.Ytadbipeachcekaa.Ab
