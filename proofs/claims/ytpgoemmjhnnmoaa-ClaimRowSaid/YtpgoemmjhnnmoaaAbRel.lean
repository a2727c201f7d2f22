/- How the abstract machine's values and memory stand to the model's: a renaming of blocks; what a step keeps. -/
import Derived.Test.YtpgoemmjhnnmoaaAb
import Derived.WalkKit
import Derived.Laws.IdiomCopy
namespace Go.Proofs.Ytpgoemmjhnnmoaa.Ab
open Go
set_option linter.unusedVariables false

/-- element by element -/
def F2 {α β : Type} (R : α → β → Prop) : List α → List β → Prop
  | [], [] => True
  | x :: xs, y :: ys => R x y ∧ F2 R xs ys
  | _, _ => False
section
variable {α β : Type} {R S : α → β → Prop}
theorem F2.length : ∀ {xs : List α} {ys : List β}, F2 R xs ys → xs.length = ys.length
  | [], [], _ => rfl
  | _ :: _, _ :: _, h => by simp [F2.length h.2]
  | [], _ :: _, h => h.elim
  | _ :: _, [], h => h.elim
theorem F2.mono (hi : ∀ x y, R x y → S x y) : ∀ {xs : List α} {ys : List β}, F2 R xs ys → F2 S xs ys
  | [], [], _ => trivial
  | _ :: _, _ :: _, h => ⟨hi _ _ h.1, F2.mono hi h.2⟩
  | [], _ :: _, h => h.elim
  | _ :: _, [], h => h.elim
theorem F2.get : ∀ {xs : List α} {ys : List β}, F2 R xs ys → ∀ {j : Nat} {x : α}, xs[j]? = some x → ∃ y, ys[j]? = some y ∧ R x y
  | [], [], _, j, x, hx => by simp at hx
  | x :: xs, y :: ys, h, 0, _, hx => ⟨y, rfl, by simp at hx; subst hx; exact h.1⟩
  | x :: xs, y :: ys, h, j + 1, _, hx => by simpa using F2.get h.2 (j := j) (by simpa using hx)
  | [], _ :: _, h, _, _, _ => h.elim
  | _ :: _, [], h, _, _, _ => h.elim
theorem F2.of_get : ∀ {xs : List α} {ys : List β} (_ : xs.length = ys.length) (_ : ∀ (j : Nat) (x : α) (y : β), xs[j]? = some x → ys[j]? = some y → R x y), F2 R xs ys
  | [], [], _, _ => trivial
  | x :: xs, y :: ys, hl, h => ⟨h 0 x y rfl rfl, F2.of_get (by simpa using hl) fun j a b ha hb => h (j + 1) a b (by simpa using ha) (by simpa using hb)⟩
  | [], _ :: _, hl, _ => by simp at hl
  | _ :: _, [], hl, _ => by simp at hl
theorem F2.append {xs xs' : List α} {ys ys' : List β} (h : F2 R xs ys) (h' : F2 R xs' ys') : F2 R (xs ++ xs') (ys ++ ys') := by
  induction xs generalizing ys with
  | nil => cases ys with | nil => exact h' | cons => exact h.elim
  | cons x xs ih => cases ys with | nil => exact h.elim | cons y ys => exact ⟨h.1, ih h.2⟩
theorem F2.set {xs : List α} {ys : List β} (h : F2 R xs ys) (j : Nat) {x : α} {y : β} (hxy : R x y) : F2 R (xs.set j x) (ys.set j y) := by
  induction xs generalizing ys j with
  | nil => cases ys with | nil => exact h | cons => exact h.elim
  | cons a xs ih =>
    cases ys with
    | nil => exact h.elim
    | cons b ys =>
      cases j with
      | zero => exact ⟨hxy, h.2⟩
      | succ j => exact ⟨h.1, ih h.2 j⟩
theorem F2.drop {xs : List α} {ys : List β} (h : F2 R xs ys) (n : Nat) : F2 R (xs.drop n) (ys.drop n) := by
  induction n generalizing xs ys with
  | zero => exact h
  | succ n ih =>
    cases xs with
    | nil => cases ys with | nil => exact trivial | cons => exact h.elim
    | cons a xs => cases ys with | nil => exact h.elim | cons b ys => exact ih h.2
theorem F2.take {xs : List α} {ys : List β} (h : F2 R xs ys) (n : Nat) : F2 R (xs.take n) (ys.take n) := by
  induction n generalizing xs ys with
  | zero => exact trivial
  | succ n ih =>
    cases xs with
    | nil => cases ys with | nil => exact trivial | cons => exact h.elim
    | cons a xs => cases ys with | nil => exact h.elim | cons b ys => exact ⟨h.1, ih h.2⟩
theorem F2.map_left {γ : Type} {f : γ → α} : ∀ {_xs : List γ} {_ys : List β}, F2 R (_xs.map f) _ys ↔ F2 (fun x y => R (f x) y) _xs _ys
  | [], [] => Iff.rfl
  | _ :: xs, _ :: ys => and_congr Iff.rfl F2.map_left
  | [], _ :: _ => Iff.rfl
  | _ :: _, [] => Iff.rfl
theorem F2.eraseIdx {xs : List α} {ys : List β} (h : F2 R xs ys) (j : Nat) : F2 R (xs.eraseIdx j) (ys.eraseIdx j) := by
  induction xs generalizing ys j with
  | nil => cases ys with | nil => exact h | cons => exact h.elim
  | cons a xs ih =>
    cases ys with
    | nil => exact h.elim
    | cons b ys => cases j with | zero => exact h.2 | succ j => exact ⟨h.1, ih h.2 j⟩
end

/-- a block's number in the model, and how many cells it has there -/
abbrev Rho := Nat → Option (Nat × Nat)
abbrev Lk := Nat → Option FuncId

def PR (ρ : Rho) (p : Nat × Nat) (v : Value) : Prop := ∃ b t, ρ p.1 = some (b, t) ∧ v = .pointer (some ⟨b, p.2, none⟩)

inductive VC (lk : Lk) (ρ : Rho) : AV → Value → Prop
  | b (x : Bool) : VC lk ρ (.b x) (.bool x)
  | i (k : IntKind) (n : Int) : VC lk ρ (.i k n) (.int k n)
  | s (x : List UInt8) (y : ByteArray) (h : y.data.toList = x) : VC lk ρ (.s x) (.string y)
  | nilp : VC lk ρ .nilp (.pointer none)
  | ptr {id off b t : Nat} (h : ρ id = some (b, t)) : VC lk ρ (.ptr id off) (.pointer (some ⟨b, off, none⟩))
  | nils : VC lk ρ .nils (.slice none 0 0)
  | es (a : Addr) : VC lk ρ .es (.slice (some a) 0 0)
  | sl {id off len cap lo b t o c : Nat} (h : ρ id = some (b, t)) (h0 : len ≤ cap) (h1 : cap ≤ c) (h2 : lo = 0 → c = cap) (h3 : o = off ∨ c = 0) (h4 : lo ≠ 0 → o + c * lo ≤ t) :
      VC lk ρ (.sl id off len cap lo) (.slice (some ⟨b, o, none⟩) len c)
  | nilm : VC lk ρ .nilm (.map none)
  | mp {id b t : Nat} (h : ρ id = some (b, t)) : VC lk ρ (.mp id) (.map (some b))
  | nilf : VC lk ρ .nilf .nilFunc
  | fn {f : Nat} {g : FuncId} {first cap : List (Nat × Nat)} {first' cap' : Array Value} (hf : lk f = some g) (h1 : F2 (PR ρ) first first'.toList) (h2 : F2 (PR ρ) cap cap'.toList) :
      VC lk ρ (.fn f first cap) (.func (.func g) first' cap')

/-- a cell that may be unknown -/
def VU (lk : Lk) (ρ : Rho) (v : AV) (x : Value) : Prop := v = .un ∨ VC lk ρ v x
theorem VC.u {lk : Lk} {ρ : Rho} {v : AV} {x : Value} (h : VC lk ρ v x) : VU lk ρ v x := .inr h

inductive VR (lk : Lk) (ρ : Rho) : AV → Value → Prop
  | cell {v : AV} {x : Value} (h : VC lk ρ v x) : VR lk ρ v x
  | agg {cs : List AV} {xs : Array Value} (h : F2 (VC lk ρ) cs xs.toList) : VR lk ρ (.agg cs) (.agg xs)

inductive VO (lk : Lk) (ρ : Rho) : AV → Value → Prop
  | un (x : Value) : VO lk ρ .un x
  | one {v : AV} {x : Value} (h : VR lk ρ v x) : VO lk ρ v x

inductive VE (lk : Lk) (ρ : Rho) : AV → Value → Prop
  | of {v : AV} {x : Value} (h : VO lk ρ v x) : VE lk ρ v x
  | tup {vs : List AV} {xs : Array Value} (h : F2 (VO lk ρ) vs xs.toList) : VE lk ρ (.tup vs) (.tuple xs)

section
variable {lk : Lk} {ρ ρ' : Rho}
def Rho.le (ρ ρ' : Rho) : Prop := ∀ id x, ρ id = some x → ρ' id = some x
theorem PR.mono (h : ρ.le ρ') {p : Nat × Nat} {v : Value} (hp : PR ρ p v) : PR ρ' p v := by
  obtain ⟨b, t, h1, h2⟩ := hp
  exact ⟨b, t, h _ _ h1, h2⟩
theorem VC.mono (h : ρ.le ρ') {v : AV} {x : Value} (hv : VC lk ρ v x) : VC lk ρ' v x := by
  cases hv with
  | b => exact .b _
  | i => exact .i _ _
  | s _ _ h' => exact .s _ _ h'
  | nilp => exact .nilp
  | ptr h' => exact .ptr (h _ _ h')
  | nils => exact .nils
  | es a => exact .es a
  | sl h' h0 h1 h2 h3 h4 => exact .sl (h _ _ h') h0 h1 h2 h3 h4
  | nilm => exact .nilm
  | mp h' => exact .mp (h _ _ h')
  | nilf => exact .nilf
  | fn hf h1 h2 => exact .fn hf (h1.mono fun _ _ => PR.mono h) (h2.mono fun _ _ => PR.mono h)
theorem VU.mono (h : ρ.le ρ') {v : AV} {x : Value} (hv : VU lk ρ v x) : VU lk ρ' v x := hv.imp id (·.mono h)
theorem VR.mono (h : ρ.le ρ') {v : AV} {x : Value} (hv : VR lk ρ v x) : VR lk ρ' v x := by
  cases hv with
  | cell hc => exact .cell (hc.mono h)
  | agg hc => exact .agg (hc.mono fun _ _ => VC.mono h)
theorem VO.mono (h : ρ.le ρ') {v : AV} {x : Value} (hv : VO lk ρ v x) : VO lk ρ' v x := by
  cases hv with
  | un => exact .un _
  | one hc => exact .one (hc.mono h)
theorem VE.mono (h : ρ.le ρ') {v : AV} {x : Value} (hv : VE lk ρ v x) : VE lk ρ' v x := by
  cases hv with
  | of hc => exact .of (hc.mono h)
  | tup hc => exact .tup (hc.mono fun _ _ => VO.mono h)
theorem VC.one {v : AV} {x : Value} (h : VC lk ρ v x) : x.oneCell' = true := by cases h <;> rfl
theorem VC.cells {v : AV} {x : Value} (h : VC lk ρ v x) : x.cells = #[x] := by cases h <;> rfl
theorem VC.cl {v : AV} {x : Value} (h : VC lk ρ v x) : v.cl = some [v] := by cases h <;> rfl
theorem VE.i {k : IntKind} {n : Int} {x : Value} (h : VE lk ρ (.i k n) x) : x = .int k n := by
  cases h with | of h => cases h with | one h => cases h with | cell h => cases h; rfl
theorem VE.b {c : Bool} {x : Value} (h : VE lk ρ (.b c) x) : x = .bool c := by
  cases h with | of h => cases h with | one h => cases h with | cell h => cases h; rfl
theorem VE.s {l : List UInt8} {x : Value} (h : VE lk ρ (.s l) x) : ∃ y : ByteArray, y.data.toList = l ∧ x = .string y := by
  cases h with | of h => cases h with | one h => cases h with | cell h => cases h with | s _ y h => exact ⟨y, h, rfl⟩
theorem VE.ptr {id off : Nat} {x : Value} (h : VE lk ρ (.ptr id off) x) : ∃ b t, ρ id = some (b, t) ∧ x = .pointer (some ⟨b, off, none⟩) := by
  cases h with | of h => cases h with | one h => cases h with | cell h => cases h with | ptr h => exact ⟨_, _, h, rfl⟩
theorem VE.nilp {x : Value} (h : VE lk ρ .nilp x) : x = .pointer none := by
  cases h with | of h => cases h with | one h => cases h with | cell h => cases h; rfl
theorem VE.nils {x : Value} (h : VE lk ρ .nils x) : x = .slice none 0 0 := by
  cases h with | of h => cases h with | one h => cases h with | cell h => cases h; rfl
theorem VE.es {x : Value} (h : VE lk ρ .es x) : ∃ a, x = .slice (some a) 0 0 := by
  cases h with | of h => cases h with | one h => cases h with | cell h => cases h; exact ⟨_, rfl⟩
theorem VE.nilm {x : Value} (h : VE lk ρ .nilm x) : x = .map none := by
  cases h with | of h => cases h with | one h => cases h with | cell h => cases h; rfl
theorem VE.nilf {x : Value} (h : VE lk ρ .nilf x) : x = .nilFunc := by
  cases h with | of h => cases h with | one h => cases h with | cell h => cases h; rfl
theorem VE.mp {id : Nat} {x : Value} (h : VE lk ρ (.mp id) x) : ∃ b t, ρ id = some (b, t) ∧ x = .map (some b) := by
  cases h with | of h => cases h with | one h => cases h with | cell h => cases h with | mp h => exact ⟨_, _, h, rfl⟩
theorem VE.sl {id off len cap lo : Nat} {x : Value} (h : VE lk ρ (.sl id off len cap lo) x) :
    ∃ b t o c, ρ id = some (b, t) ∧ len ≤ cap ∧ cap ≤ c ∧ (lo = 0 → c = cap) ∧ (o = off ∨ c = 0) ∧ (lo ≠ 0 → o + c * lo ≤ t) ∧ x = .slice (some ⟨b, o, none⟩) len c := by
  cases h with | of h => cases h with | one h => cases h with | cell h => cases h with | sl h h0 h1 h2 h3 h4 => exact ⟨_, _, _, _, h, h0, h1, h2, h3, h4, rfl⟩
theorem VE.agg {cs : List AV} {x : Value} (h : VE lk ρ (.agg cs) x) : ∃ xs : Array Value, F2 (VC lk ρ) cs xs.toList ∧ x = .agg xs := by
  cases h with | of h => cases h with | one h => cases h with | cell h => cases h | agg h => exact ⟨_, h, rfl⟩
theorem VE.tup' {vs : List AV} {x : Value} (h : VE lk ρ (.tup vs) x) : ∃ xs : Array Value, F2 (VO lk ρ) vs xs.toList ∧ x = .tuple xs := by
  cases h with
  | of h => cases h with | one h => cases h with | cell h => cases h
  | tup h => exact ⟨_, h, rfl⟩
theorem VE.fn {f : Nat} {first cap : List (Nat × Nat)} {x : Value} (h : VE lk ρ (.fn f first cap) x) :
    ∃ g first' cap', lk f = some g ∧ F2 (PR ρ) first (Array.toList first') ∧ F2 (PR ρ) cap (Array.toList cap') ∧ x = .func (.func g) first' cap' := by
  cases h with | of h => cases h with | one h => cases h with | cell h => cases h with | fn h h1 h2 => exact ⟨_, _, _, h, h1, h2, rfl⟩
theorem VC.e {v : AV} {x : Value} (h : VC lk ρ v x) : VE lk ρ v x := .of (.one (.cell h))
theorem VR.e {v : AV} {x : Value} (h : VR lk ρ v x) : VE lk ρ v x := .of (.one h)
/-- what can be stored, cell by cell -/
theorem VE.cl {v : AV} {x : Value} (h : VE lk ρ v x) {cs : List AV} (hc : v.cl = some cs) : VR lk ρ v x ∧ F2 (VC lk ρ) cs x.cells.toList := by
  cases h with
  | tup h => simp [AV.cl] at hc
  | of h =>
    cases h with
    | un => simp [AV.cl] at hc
    | one h =>
      refine ⟨h, ?_⟩
      cases h with
      | cell h => rw [h.cl] at hc; cases hc; rw [h.cells]; exact ⟨h, trivial⟩
      | agg h => simp [AV.cl] at hc; subst hc; exact h
end

/-- an entry of a map -/
def ME (lk : Lk) (ρ : Rho) (e : AV × AV × Nat) (x : MapEntry) : Prop := VR lk ρ e.1 x.key ∧ VR lk ρ e.2.1 x.val ∧ e.2.2 = x.born

structure Rel (lk : Lk) (ρ : Rho) (h : AH) (w : World) : Prop where
  row : ∀ {id b t : Nat} {cs : List AV} {ro : Bool}, ρ id = some (b, t) → h.blk id = some (.row cs ro) →
    ∃ cur ty fz, w.heap[b]? = some (.cells cur ty fz) ∧ cur.size = t ∧ cs.length ≤ t ∧ (ro = false → ∀ j, j < t → ¬ (fz.1 ≤ j ∧ j < fz.2)) ∧
      ∀ (j : Nat) (x : AV), cs[j]? = some x → ∃ y, cur[j]? = some y ∧ VU lk ρ x y
  map : ∀ {id b t : Nat} {es : List (AV × AV × Nat)} {cl : Nat}, ρ id = some (b, t) → h.blk id = some (.map es cl) →
    ∃ es' : Array MapEntry, w.heap[b]? = some (.map es' cl) ∧ F2 (ME lk ρ) es es'.toList
  inj : ∀ {i j b t b' t' : Nat}, ρ i = some (b, t) → ρ j = some (b', t') → h.blk i ≠ none → h.blk j ≠ none → b = b' → i = j
  lt : ∀ {id b t : Nat}, ρ id = some (b, t) → b < w.heap.size
  wf : ∀ id, h.next ≤ id → h.blk id = none

def Live (ρ : Rho) (h : AH) (b : Nat) : Prop := ∃ id t, ρ id = some (b, t) ∧ h.blk id ≠ none
/-- blocks that may be written -/
def Wr (ρ : Rho) (h : AH) (b : Nat) : Prop := ∃ id t x, ρ id = some (b, t) ∧ h.blk id = some x ∧ ∀ cs, x ≠ .row cs true

structure Stp (ρ : Rho) (h : AH) (w : World) (ρ' : Rho) (h' : AH) (w' : World) : Prop where
  ag : ∀ id, id < h.next ∨ h'.next ≤ id → ρ' id = ρ id
  nx : h.next ≤ h'.next
  un : ∀ id, id < h.next → ρ id = none → h'.blk id = h.blk id
  lv : ∀ b, b < w.heap.size → Live ρ' h' b → Live ρ h b
  wl : ∀ b, b < w.heap.size → Wr ρ' h' b → Wr ρ h b
  sm : ∀ b, b < w.heap.size → ¬ Wr ρ h b → w'.heap[b]? = w.heap[b]?
  sz : w.heap.size ≤ w'.heap.size
  os : w'.os = w.os
  tape : w'.tape = w.tape
  output : w'.output = w.output

/-- the numbers that a step will give are free -/
def Free (ρ : Rho) (a b : Nat) : Prop := ∀ id, a ≤ id → id < b → ρ id = none

theorem Stp.le {ρ ρ' : Rho} {h h' : AH} {w w' : World} (s : Stp ρ h w ρ' h' w') (f : Free ρ h.next h'.next) : ρ.le ρ' := by
  intro id x hx
  rw [s.ag id ?_]
  · exact hx
  · rcases Nat.lt_or_ge id h.next with h1 | h1
    · exact .inl h1
    · rcases Nat.lt_or_ge id h'.next with h2 | h2
      · rw [f id h1 h2] at hx; cases hx
      · exact .inr h2

theorem Stp.refl (ρ : Rho) (h : AH) (w : World) : Stp ρ h w ρ h w :=
  ⟨fun _ _ => rfl, Nat.le_refl _, fun _ _ _ => rfl, fun _ _ h => h, fun _ _ h => h, fun _ _ _ => rfl, Nat.le_refl _, rfl, rfl, rfl⟩

theorem Stp.trans {ρ ρ1 ρ2 : Rho} {h h1 h2 : AH} {w w1 w2 : World} (s : Stp ρ h w ρ1 h1 w1) (s' : Stp ρ1 h1 w1 ρ2 h2 w2) : Stp ρ h w ρ2 h2 w2 where
  ag id hid := by
    have n1 := s.nx
    have n2 := s'.nx
    rw [s'.ag id (by omega), s.ag id (by omega)]
  nx := Nat.le_trans s.nx s'.nx
  un id hid hr := by
    have n1 := s.nx
    rw [s'.un id (by omega) (by rw [s.ag id (.inl hid)]; exact hr), s.un id hid hr]
  lv b hb hl := s.lv b hb (s'.lv b (Nat.lt_of_lt_of_le hb s.sz) hl)
  wl b hb hl := s.wl b hb (s'.wl b (Nat.lt_of_lt_of_le hb s.sz) hl)
  sm b hb hn := by
    rw [s'.sm b (Nat.lt_of_lt_of_le hb s.sz) (fun h => hn (s.wl b hb h)), s.sm b hb hn]
  sz := Nat.le_trans s.sz s'.sz
  os := s'.os.trans s.os
  tape := s'.tape.trans s.tape
  output := s'.output.trans s.output

theorem Free.fst {ρ : Rho} {a b c : Nat} (h : Free ρ a c) (hb : b ≤ c) : Free ρ a b := fun id h1 h2 => h id h1 (Nat.lt_of_lt_of_le h2 hb)
theorem Free.snd {ρ ρ1 : Rho} {h h1 : AH} {w w1 : World} (s : Stp ρ h w ρ1 h1 w1) {c : Nat} (f : Free ρ h.next c) : Free ρ1 h1.next c :=
  fun id ha hb => by rw [s.ag id (.inr ha)]; exact f id (Nat.le_trans s.nx ha) hb

/-! ### a draw, a new block -/
theorem Rel.drew {lk : Lk} {ρ : Rho} {h : AH} {w : World} (r : Rel lk ρ h w) : Rel lk ρ h w.drew := ⟨r.row, r.map, r.inj, r.lt, r.wf⟩
theorem Stp.drew (ρ : Rho) (h : AH) (w : World) : Stp ρ h w ρ h w.drew :=
  ⟨fun _ _ => rfl, Nat.le_refl _, fun _ _ _ => rfl, fun _ _ h => h, fun _ _ h => h, fun _ _ _ => rfl, Nat.le_refl _, rfl, rfl, rfl⟩

def Rho.add (ρ : Rho) (id b t : Nat) : Rho := fun j => if j = id then some (b, t) else ρ j
theorem Rho.add_same (ρ : Rho) (id b t : Nat) : ρ.add id b t id = some (b, t) := by simp [Rho.add]
theorem Rho.add_ne (ρ : Rho) {id b t j : Nat} (h : j ≠ id) : ρ.add id b t j = ρ j := by simp [Rho.add, h]
theorem Rho.add_le {ρ : Rho} {id b t : Nat} (h : ρ id = none) : ρ.le (ρ.add id b t) := fun j x hx => by
  rw [Rho.add_ne _ (fun e => by subst e; rw [h] at hx; cases hx)]; exact hx

theorem blk_alloc_same (h : AH) (x : Blk) : (h.alloc x).blk h.next = some x := by simp [AH.alloc]
theorem blk_alloc_ne {h : AH} {x : Blk} {j : Nat} (hj : j ≠ h.next) : (h.alloc x).blk j = h.blk j := by simp [AH.alloc, hj]
theorem next_alloc (h : AH) (x : Blk) : (h.alloc x).next = h.next + 1 := rfl
theorem blk_set_same (h : AH) (id : Nat) (x : Option Blk) : (h.set id x).blk id = x := by simp [AH.set]
theorem blk_set_ne {h : AH} {id : Nat} {x : Option Blk} {j : Nat} (hj : j ≠ id) : (h.set id x).blk j = h.blk j := by simp [AH.set, hj]
theorem next_set (h : AH) (id : Nat) (x : Option Blk) : (h.set id x).next = h.next := rfl

section
variable {lk : Lk} {ρ : Rho} {h : AH} {w : World}
theorem heap_alloc_lt {o : Obj} {b : Nat} (hb : b < w.heap.size) : (w.alloc o).heap[b]? = w.heap[b]? := Go.RowKit.Below.heap_alloc w o b hb

/-- a new row of cells -/
theorem Rel.allocRow (r : Rel lk ρ h w) (f : ρ h.next = none) {cs : List AV} {cur : Array Value} {ty : TypeId} {fz : Nat × Nat} (hl : cs.length ≤ cur.size)
    (hz : ∀ j, j < cur.size → ¬ (fz.1 ≤ j ∧ j < fz.2)) (hc : ∀ (j : Nat) (x : AV), cs[j]? = some x → ∃ y, cur[j]? = some y ∧ VC lk ρ x y) :
    Rel lk (ρ.add h.next w.heap.size cur.size) (h.alloc (.row cs false)) (w.alloc (.cells cur ty fz)) ∧
      Stp ρ h w (ρ.add h.next w.heap.size cur.size) (h.alloc (.row cs false)) (w.alloc (.cells cur ty fz)) := by
  have hle := Rho.add_le (b := w.heap.size) (t := cur.size) f
  have old : ∀ {id b t}, (ρ.add h.next w.heap.size cur.size) id = some (b, t) → id ≠ h.next → ρ id = some (b, t) := fun h1 h2 => by rwa [Rho.add_ne _ h2] at h1
  have new : ∀ {b t}, (ρ.add h.next w.heap.size cur.size) h.next = some (b, t) → b = w.heap.size ∧ t = cur.size := fun h1 => by
    rw [Rho.add_same] at h1; cases h1; exact ⟨rfl, rfl⟩
  refine ⟨⟨?_, ?_, ?_, ?_, ?_⟩, ⟨?_, ?_, ?_, ?_, ?_, ?_, ?_, rfl, rfl, rfl⟩⟩
  · intro id b t cs' ro hi hb
    by_cases e : id = h.next
    · subst e
      obtain ⟨rfl, rfl⟩ := new hi
      rw [blk_alloc_same] at hb
      cases hb
      refine ⟨cur, ty, fz, heap_alloc_new w _, rfl, hl, fun _ => hz, fun j x hx => ?_⟩
      obtain ⟨y, h1, h2⟩ := hc j x hx
      exact ⟨y, h1, (h2.mono hle).u⟩
    · have hi' := old hi e
      rw [blk_alloc_ne e] at hb
      obtain ⟨cur', ty', fz', h1, h2, h3, h4, h5⟩ := r.row hi' hb
      refine ⟨cur', ty', fz', by rw [heap_alloc_lt (r.lt hi')]; exact h1, h2, h3, h4, fun j x hx => ?_⟩
      obtain ⟨y, h6, h7⟩ := h5 j x hx
      exact ⟨y, h6, h7.mono hle⟩
  · intro id b t es cl hi hb
    have e : id ≠ h.next := fun e => by subst e; rw [blk_alloc_same] at hb; cases hb
    have hi' := old hi e
    rw [blk_alloc_ne e] at hb
    obtain ⟨es', h1, h2⟩ := r.map hi' hb
    exact ⟨es', by rw [heap_alloc_lt (r.lt hi')]; exact h1, h2.mono fun _ _ ⟨a, b, c⟩ => ⟨a.mono hle, b.mono hle, c⟩⟩
  · intro i j b t b' t' hi hj hbi hbj e
    subst e
    by_cases ei : i = h.next
    · by_cases ej : j = h.next
      · rw [ei, ej]
      · subst ei
        have := (new hi).1
        have := r.lt (old hj ej)
        omega
    · by_cases ej : j = h.next
      · subst ej
        have := (new hj).1
        have := r.lt (old hi ei)
        omega
      · rw [blk_alloc_ne ei] at hbi
        rw [blk_alloc_ne ej] at hbj
        exact r.inj (old hi ei) (old hj ej) hbi hbj rfl
  · intro id b t hi
    by_cases e : id = h.next
    · subst e
      have := (new hi).1
      simp; omega
    · have := r.lt (old hi e)
      simp; omega
  · intro id hid
    rw [blk_alloc_ne (by simp only [next_alloc] at hid; omega)]
    exact r.wf id (by simp only [next_alloc] at hid; omega)
  · intro id hid
    exact Rho.add_ne _ (by simp only [next_alloc] at hid; omega)
  · exact Nat.le_succ _
  · intro id hid _
    exact blk_alloc_ne (by omega)
  · rintro b hb ⟨id, t, hi, hl⟩
    by_cases e : id = h.next
    · subst e
      have := (new hi).1
      omega
    · exact ⟨id, t, old hi e, by rwa [blk_alloc_ne e] at hl⟩
  · rintro b hb ⟨id, t, x, hi, hx, hn⟩
    by_cases e : id = h.next
    · subst e
      have := (new hi).1
      omega
    · exact ⟨id, t, x, old hi e, by rwa [blk_alloc_ne e] at hx, hn⟩
  · intro b hb _
    exact heap_alloc_lt hb
  · simp

/-- a new map -/
theorem Rel.allocMap (r : Rel lk ρ h w) (f : ρ h.next = none) :
    Rel lk (ρ.add h.next w.heap.size 0) (h.alloc (.map [] 0)) (w.alloc (.map #[] 0)) ∧ Stp ρ h w (ρ.add h.next w.heap.size 0) (h.alloc (.map [] 0)) (w.alloc (.map #[] 0)) := by
  have hle := Rho.add_le (b := w.heap.size) (t := 0) f
  have old : ∀ {id b t}, (ρ.add h.next w.heap.size 0) id = some (b, t) → id ≠ h.next → ρ id = some (b, t) := fun h1 h2 => by rwa [Rho.add_ne _ h2] at h1
  have new : ∀ {b t}, (ρ.add h.next w.heap.size 0) h.next = some (b, t) → b = w.heap.size := fun h1 => by
    rw [Rho.add_same] at h1; cases h1; rfl
  refine ⟨⟨?_, ?_, ?_, ?_, ?_⟩, ⟨?_, ?_, ?_, ?_, ?_, ?_, ?_, rfl, rfl, rfl⟩⟩
  · intro id b t cs' ro hi hb
    have e : id ≠ h.next := fun e => by subst e; rw [blk_alloc_same] at hb; cases hb
    have hi' := old hi e
    rw [blk_alloc_ne e] at hb
    obtain ⟨cur', ty', fz', h1, h2, h3, h4, h5⟩ := r.row hi' hb
    refine ⟨cur', ty', fz', by rw [heap_alloc_lt (r.lt hi')]; exact h1, h2, h3, h4, fun j x hx => ?_⟩
    obtain ⟨y, h6, h7⟩ := h5 j x hx
    exact ⟨y, h6, h7.mono hle⟩
  · intro id b t es cl hi hb
    by_cases e : id = h.next
    · subst e
      have := new hi
      subst this
      rw [blk_alloc_same] at hb
      cases hb
      exact ⟨#[], heap_alloc_new w _, trivial⟩
    · have hi' := old hi e
      rw [blk_alloc_ne e] at hb
      obtain ⟨es', h1, h2⟩ := r.map hi' hb
      exact ⟨es', by rw [heap_alloc_lt (r.lt hi')]; exact h1, h2.mono fun _ _ ⟨a, b, c⟩ => ⟨a.mono hle, b.mono hle, c⟩⟩
  · intro i j b t b' t' hi hj hbi hbj e
    subst e
    by_cases ei : i = h.next
    · by_cases ej : j = h.next
      · rw [ei, ej]
      · subst ei
        have := new hi
        have := r.lt (old hj ej)
        omega
    · by_cases ej : j = h.next
      · subst ej
        have := new hj
        have := r.lt (old hi ei)
        omega
      · rw [blk_alloc_ne ei] at hbi
        rw [blk_alloc_ne ej] at hbj
        exact r.inj (old hi ei) (old hj ej) hbi hbj rfl
  · intro id b t hi
    by_cases e : id = h.next
    · subst e
      have := new hi
      simp; omega
    · have := r.lt (old hi e)
      simp; omega
  · intro id hid
    rw [blk_alloc_ne (by simp only [next_alloc] at hid; omega)]
    exact r.wf id (by simp only [next_alloc] at hid; omega)
  · intro id hid
    exact Rho.add_ne _ (by simp only [next_alloc] at hid; omega)
  · exact Nat.le_succ _
  · intro id hid _
    exact blk_alloc_ne (by omega)
  · rintro b hb ⟨id, t, hi, hl⟩
    by_cases e : id = h.next
    · subst e
      have := new hi
      omega
    · exact ⟨id, t, old hi e, by rwa [blk_alloc_ne e] at hl⟩
  · rintro b hb ⟨id, t, x, hi, hx, hn⟩
    by_cases e : id = h.next
    · subst e
      have := new hi
      omega
    · exact ⟨id, t, x, old hi e, by rwa [blk_alloc_ne e] at hx, hn⟩
  · intro b hb _
    exact heap_alloc_lt hb
  · simp
end

/-! ### stores -/
/-- cells laid over a row, one behind the other -/
def setA (cur : Array Value) : Nat → List Value → Array Value
  | _, [] => cur
  | o, v :: r => setA (cur.setIfInBounds o v) (o + 1) r
theorem size_setA : ∀ (vs : List Value) (o : Nat) (cur : Array Value), (setA cur o vs).size = cur.size
  | [], _, _ => rfl
  | v :: r, o, cur => by rw [setA, size_setA r]; simp
theorem length_setl : ∀ (vs : List AV) (o : Nat) (cs : List AV), (setl cs o vs).length = cs.length
  | [], _, _ => rfl
  | v :: r, o, cs => by rw [setl, length_setl r]; simp
theorem setl_A {R : AV → Value → Prop} : ∀ (vs : List AV) (xs : List Value), F2 R vs xs → ∀ (o : Nat) (cs : List AV) (cur : Array Value),
    (∀ (j : Nat) (x : AV), cs[j]? = some x → ∃ y, cur[j]? = some y ∧ R x y) →
    ∀ (j : Nat) (x : AV), (setl cs o vs)[j]? = some x → ∃ y, (setA cur o xs)[j]? = some y ∧ R x y
  | [], [], _, o, cs, cur, hc => hc
  | v :: vs, x :: xs, h, o, cs, cur, hc => by
    refine setl_A vs xs h.2 (o + 1) _ _ fun j y hy => ?_
    rw [List.getElem?_set] at hy
    split at hy
    · rename_i e
      subst e
      split at hy
      · rename_i hlt
        cases hy
        obtain ⟨z, hz, _⟩ := hc o _ (List.getElem?_eq_getElem hlt)
        have := (Array.getElem?_eq_some_iff.1 hz).1
        exact ⟨x, by simp [this], h.1⟩
      · cases hy
    · rename_i e
      obtain ⟨z, hz, hr⟩ := hc j y hy
      exact ⟨z, by rw [Array.getElem?_setIfInBounds_ne e]; exact hz, hr⟩
  | [], _ :: _, h, _, _, _, _ => h.elim
  | _ :: _, [], h, _, _, _, _ => h.elim

theorem heap_setCell_same {w : World} {b o : Nat} {v : Value} {cur : Array Value} {ty : TypeId} {fz : Nat × Nat} (hb : w.heap[b]? = some (.cells cur ty fz)) :
    (w.setCell ⟨b, o, none⟩ v).heap[b]? = some (.cells (cur.setIfInBounds o v) ty fz) := by
  simp [World.setCell, Array.getElem?_modify, hb]
theorem heap_setCell_ne {w : World} {b o b' : Nat} {v : Value} (h : b' ≠ b) : (w.setCell ⟨b, o, none⟩ v).heap[b']? = w.heap[b']? := by
  simp only [World.setCell, Array.getElem?_modify]
  rw [if_neg (by simpa using Ne.symm h)]
theorem heap_setCells_same {b : Nat} {ty : TypeId} {fz : Nat × Nat} : ∀ (vs : List Value) (o : Nat) (w : World) (cur : Array Value), w.heap[b]? = some (.cells cur ty fz) →
    (w.setCells b o vs).heap[b]? = some (.cells (setA cur o vs) ty fz)
  | [], _, _, _, h => h
  | v :: r, o, w, cur, h => by rw [World.setCells, setA]; exact heap_setCells_same r (o + 1) _ _ (heap_setCell_same h)
theorem heap_setCells_ne {b b' : Nat} (hne : b' ≠ b) : ∀ (vs : List Value) (o : Nat) (w : World), (w.setCells b o vs).heap[b']? = w.heap[b']?
  | [], _, _ => rfl
  | v :: r, o, w => by rw [World.setCells, heap_setCells_ne hne r, heap_setCell_ne hne]
theorem size_setCells {b : Nat} : ∀ (vs : List Value) (o : Nat) (w : World), (w.setCells b o vs).heap.size = w.heap.size
  | [], _, _ => rfl
  | v :: r, o, w => by rw [World.setCells, size_setCells r]; simp
theorem rest_setCells {b : Nat} : ∀ (vs : List Value) (o : Nat) (w : World), (w.setCells b o vs).os = w.os ∧ (w.setCells b o vs).tape = w.tape ∧ (w.setCells b o vs).output = w.output
  | [], _, _ => ⟨rfl, rfl, rfl⟩
  | v :: r, o, w => by rw [World.setCells]; exact rest_setCells r _ _
theorem run_storeRow {P : Program} {w : World} {b o : Nat} {cur : Array Value} {ty : TypeId} {fz : Nat × Nat} (vs : List Value) (hb : w.heap[b]? = some (.cells cur ty fz))
    (hl : o + vs.length ≤ cur.size) (hz : ∀ j, j < cur.size → ¬ (fz.1 ≤ j ∧ j < fz.2)) (h1 : ∀ v ∈ vs, v.oneCell' = true) :
    (storeCells ⟨b, o, none⟩ vs).run P w = .ok () (w.setCells b o vs) := by
  have := run_storeCells_cells (P := P) b o vs 0 w (fun j hj => by
      rw [World.cell?]; simp only [hb]; simp; omega)
    (fun j hj => by
      have := hz (o + j) (by omega)
      simp only [World.frozen?, hb, Nat.add_zero]
      simp; omega) h1
  simpa using this
theorem run_loadRow {P : Program} {w : World} {b o : Nat} {cur : Array Value} {ty : TypeId} {fz : Nat × Nat} (hb : w.heap[b]? = some (.cells cur ty fz)) (n : Nat) (hl : o + n ≤ cur.size) :
    (loadCells ⟨b, o, none⟩ n).run P w = .ok ((cur.toList.drop o).take n).toArray w := by
  have h := run_loadCells_list (P := P) w ⟨b, o, none⟩ ((cur.toList.drop o).take n) (fun j v hj => by
    rw [List.getElem?_take] at hj
    split at hj
    · rw [List.getElem?_drop] at hj
      simp only [Addr.add_lit, World.cell?, hb]
      simpa using hj
    · cases hj)
  have hn : ((cur.toList.drop o).take n).length = n := by simp; omega
  rw [hn] at h
  exact h
theorem F2.one {lk : Lk} {ρ : Rho} {cs : List AV} {xs : List Value} (h : F2 (VC lk ρ) cs xs) : ∀ v ∈ xs, v.oneCell' = true := by
  induction cs generalizing xs with
  | nil => cases xs with | nil => simp | cons => exact h.elim
  | cons c cs ih =>
    cases xs with
    | nil => exact h.elim
    | cons x xs =>
      intro v hv
      rcases List.mem_cons.1 hv with rfl | hv
      · exact h.1.one
      · exact ih h.2 v hv

section
variable {lk : Lk} {ρ : Rho} {h : AH} {w : World}
/-- cells written over a row that may be written -/
theorem Rel.store (r : Rel lk ρ h w) {id b t off : Nat} {cs vs : List AV} {xs : List Value} (hi : ρ id = some (b, t)) (hb : h.blk id = some (.row cs false)) (hv : F2 (VC lk ρ) vs xs) :
    Rel lk ρ (h.set id (some (.row (setl cs off vs) false))) (w.setCells b off xs) ∧ Stp ρ h w ρ (h.set id (some (.row (setl cs off vs) false))) (w.setCells b off xs) := by
  obtain ⟨cur, ty, fz, h1, h2, h3, h4, h5⟩ := r.row hi hb
  have hne : ∀ {j b' t'}, ρ j = some (b', t') → h.blk j ≠ none → j ≠ id → b' ≠ b := fun hj hl hji e => hji (r.inj hj hi hl (by rw [hb]; simp) e)
  refine ⟨⟨?_, ?_, ?_, ?_, ?_⟩, ⟨fun _ _ => rfl, Nat.le_refl _, ?_, ?_, ?_, ?_, ?_, (rest_setCells _ _ _).1, (rest_setCells _ _ _).2.1, (rest_setCells _ _ _).2.2⟩⟩
  · intro j b' t' cs' ro hj hbj
    by_cases e : j = id
    · subst e
      rw [hi] at hj
      cases hj
      rw [blk_set_same] at hbj
      cases hbj
      exact ⟨setA cur off xs, ty, fz, heap_setCells_same _ _ _ _ h1, by rw [size_setA]; exact h2, by rw [length_setl]; exact h3, h4, setl_A vs xs (hv.mono fun _ _ => VC.u) off cs cur h5⟩
    · rw [blk_set_ne e] at hbj
      obtain ⟨cur', ty', fz', g1, g2, g3, g4, g5⟩ := r.row hj hbj
      exact ⟨cur', ty', fz', by rw [heap_setCells_ne (hne hj (by rw [hbj]; simp) e)]; exact g1, g2, g3, g4, g5⟩
  · intro j b' t' es cl hj hbj
    have e : j ≠ id := fun e => by subst e; rw [blk_set_same] at hbj; cases hbj
    rw [blk_set_ne e] at hbj
    obtain ⟨es', g1, g2⟩ := r.map hj hbj
    exact ⟨es', by rw [heap_setCells_ne (hne hj (by rw [hbj]; simp) e)]; exact g1, g2⟩
  · intro i j bi ti bj tj hi' hj' hbi hbj e
    have live : ∀ {k}, (h.set id (some (.row (setl cs off vs) false))).blk k ≠ none → h.blk k ≠ none := fun {k} hk => by
      by_cases e : k = id
      · subst e; rw [hb]; simp
      · rwa [blk_set_ne e] at hk
    exact r.inj hi' hj' (live hbi) (live hbj) e
  · intro j b' t' hj
    rw [size_setCells]
    exact r.lt hj
  · intro j hj
    rw [blk_set_ne (fun e => by subst e; have := r.wf j hj; rw [hb] at this; cases this)]
    exact r.wf j hj
  · intro j hj hr
    exact blk_set_ne (fun e => by subst e; rw [hi] at hr; cases hr)
  · rintro b' hb' ⟨j, t', hj, hl⟩
    by_cases e : j = id
    · subst e; exact ⟨j, t', hj, by rw [hb]; simp⟩
    · exact ⟨j, t', hj, by rwa [blk_set_ne e] at hl⟩
  · rintro b' hb' ⟨j, t', x, hj, hx, hn⟩
    by_cases e : j = id
    · subst e; exact ⟨j, t', _, hj, hb, by simp⟩
    · exact ⟨j, t', x, hj, by rwa [blk_set_ne e] at hx, hn⟩
  · intro b' hb' hn
    exact heap_setCells_ne (fun e => hn ⟨id, t, _, by rw [e]; exact hi, hb, by simp⟩) _ _ _
  · rw [size_setCells]; exact Nat.le_refl _
/-- a row that nobody looks at any more -/
theorem Rel.kill (r : Rel lk ρ h w) (id : Nat) {b t : Nat} (hi : ρ id = some (b, t)) : Rel lk ρ (h.set id none) w ∧ Stp ρ h w ρ (h.set id none) w := by
  have live : ∀ {k}, (h.set id none).blk k ≠ none → k ≠ id := fun {k} hk e => by subst e; exact hk (blk_set_same h k none)
  refine ⟨⟨?_, ?_, ?_, r.lt, ?_⟩, ⟨fun _ _ => rfl, Nat.le_refl _, ?_, ?_, ?_, fun _ _ _ => rfl, Nat.le_refl _, rfl, rfl, rfl⟩⟩
  · intro j b' t' cs ro hj hbj
    have e := live (k := j) (by rw [hbj]; simp)
    rw [blk_set_ne e] at hbj
    exact r.row hj hbj
  · intro j b' t' es cl hj hbj
    have e := live (k := j) (by rw [hbj]; simp)
    rw [blk_set_ne e] at hbj
    exact r.map hj hbj
  · intro i j bi ti bj tj hi' hj' hbi hbj e
    have ei := live hbi
    have ej := live hbj
    rw [blk_set_ne ei] at hbi
    rw [blk_set_ne ej] at hbj
    exact r.inj hi' hj' hbi hbj e
  · intro j hj
    by_cases e : j = id
    · subst e; exact blk_set_same _ _ _
    · rw [blk_set_ne e]; exact r.wf j hj
  · intro j hj hr
    exact blk_set_ne (fun e => by subst e; rw [hi] at hr; cases hr)
  · rintro b' _ ⟨j, t', hj, hl⟩
    have e := live hl
    exact ⟨j, t', hj, by rwa [blk_set_ne e] at hl⟩
  · rintro b' _ ⟨j, t', x, hj, hx, hn⟩
    have e := live (k := j) (by rw [hx]; simp)
    exact ⟨j, t', x, hj, by rwa [blk_set_ne e] at hx, hn⟩

/-- a row that grows in its place: it gets a number of its own -/
theorem Rel.move (r : Rel lk ρ h w) (f : ρ h.next = none) {id b t : Nat} {cs cs' : List AV} (hi : ρ id = some (b, t)) (hb : h.blk id = some (.row cs false)) {o : Nat} {xs : List Value}
    (hl : cs'.length ≤ t) (hc : ∀ (cur : Array Value), (∀ (j : Nat) (x : AV), cs[j]? = some x → ∃ y, cur[j]? = some y ∧ VU lk ρ x y) → cur.size = t →
      ∀ (j : Nat) (x : AV), cs'[j]? = some x → ∃ y, (setA cur o xs)[j]? = some y ∧ VU lk ρ x y) :
    Rel lk (ρ.add h.next b t) ((h.set id none).alloc (.row cs' false)) (w.setCells b o xs) ∧ Stp ρ h w (ρ.add h.next b t) ((h.set id none).alloc (.row cs' false)) (w.setCells b o xs) := by
  obtain ⟨cur, ty, fz, h1, h2, h3, h4, h5⟩ := r.row hi hb
  have hle := Rho.add_le (b := b) (t := t) f
  have hidn : id < h.next := by
    rcases Nat.lt_or_ge id h.next with e | e
    · exact e
    · rw [r.wf id e] at hb; cases hb
  have hne : ∀ {j b' t'}, ρ j = some (b', t') → h.blk j ≠ none → j ≠ id → b' ≠ b := fun hj hl hji e => hji (r.inj hj hi hl (by rw [hb]; simp) e)
  have old : ∀ {id' b' t'}, (ρ.add h.next b t) id' = some (b', t') → id' ≠ h.next → ρ id' = some (b', t') := fun h1 h2 => by rwa [Rho.add_ne _ h2] at h1
  have new : ∀ {b' t'}, (ρ.add h.next b t) h.next = some (b', t') → b' = b ∧ t' = t := fun h1 => by
    rw [Rho.add_same] at h1; cases h1; exact ⟨rfl, rfl⟩
  have bn : ((h.set id none).alloc (.row cs' false)).blk h.next = some (.row cs' false) := blk_alloc_same (h.set id none) _
  have bi : ((h.set id none).alloc (.row cs' false)).blk id = none := by
    rw [blk_alloc_ne (by rw [next_set]; omega), blk_set_same]
  have bo : ∀ {j}, j ≠ h.next → j ≠ id → ((h.set id none).alloc (.row cs' false)).blk j = h.blk j := fun e1 e2 => by
    rw [blk_alloc_ne (by rw [next_set]; exact e1), blk_set_ne e2]
  refine ⟨⟨?_, ?_, ?_, ?_, ?_⟩, ⟨?_, Nat.le_succ _, ?_, ?_, ?_, ?_, ?_, (rest_setCells _ _ _).1, (rest_setCells _ _ _).2.1, (rest_setCells _ _ _).2.2⟩⟩
  · intro j b' t' cs'' ro hj hbj
    by_cases e : j = h.next
    · subst e
      obtain ⟨rfl, rfl⟩ := new hj
      rw [bn] at hbj
      cases hbj
      refine ⟨setA cur o xs, ty, fz, heap_setCells_same _ _ _ _ h1, by rw [size_setA]; exact h2, hl, h4, fun j x hx => ?_⟩
      obtain ⟨y, g1, g2⟩ := hc cur h5 h2 j x hx
      exact ⟨y, g1, g2.mono hle⟩
    · by_cases e2 : j = id
      · subst e2; rw [bi] at hbj; cases hbj
      · rw [bo e e2] at hbj
        obtain ⟨cur', ty', fz', g1, g2, g3, g4, g5⟩ := r.row (old hj e) hbj
        refine ⟨cur', ty', fz', by rw [heap_setCells_ne (hne (old hj e) (by rw [hbj]; simp) e2)]; exact g1, g2, g3, g4, fun j x hx => ?_⟩
        obtain ⟨y, g6, g7⟩ := g5 j x hx
        exact ⟨y, g6, g7.mono hle⟩
  · intro j b' t' es cl hj hbj
    have e : j ≠ h.next := fun e => by subst e; rw [bn] at hbj; cases hbj
    have e2 : j ≠ id := fun e => by subst e; rw [bi] at hbj; cases hbj
    rw [bo e e2] at hbj
    obtain ⟨es', g1, g2⟩ := r.map (old hj e) hbj
    exact ⟨es', by rw [heap_setCells_ne (hne (old hj e) (by rw [hbj]; simp) e2)]; exact g1, g2.mono fun _ _ ⟨a, b, c⟩ => ⟨a.mono hle, b.mono hle, c⟩⟩
  · intro i j b1 t1 b2 t2 hi' hj' hbi hbj e
    subst e
    have ei : i ≠ id := fun e => by subst e; exact hbi bi
    have ej : j ≠ id := fun e => by subst e; exact hbj bi
    by_cases e1 : i = h.next
    · by_cases e2 : j = h.next
      · rw [e1, e2]
      · subst e1
        rw [bo e2 ej] at hbj
        exact absurd (new hi').1 (hne (old hj' e2) hbj ej)
    · rw [bo e1 ei] at hbi
      by_cases e2 : j = h.next
      · subst e2
        exact absurd (new hj').1 (hne (old hi' e1) hbi ei)
      · rw [bo e2 ej] at hbj
        exact r.inj (old hi' e1) (old hj' e2) hbi hbj rfl
  · intro j b' t' hj
    rw [size_setCells]
    by_cases e : j = h.next
    · subst e
      rw [(new hj).1]
      exact r.lt hi
    · exact r.lt (old hj e)
  · intro j hj
    have hj' : h.next + 1 ≤ j := hj
    rw [bo (by omega) (by omega)]
    exact r.wf j (by omega)
  · intro j hj
    exact Rho.add_ne _ (by have hj' : j < h.next ∨ h.next + 1 ≤ j := hj; omega)
  · intro j hj hr
    exact bo (by omega) (fun e => by subst e; rw [hi] at hr; cases hr)
  · rintro b' _ ⟨j, t', hj, hl'⟩
    by_cases e : j = h.next
    · subst e
      rw [(new hj).1]
      exact ⟨id, t, hi, by rw [hb]; simp⟩
    · by_cases e2 : j = id
      · subst e2; exact absurd bi hl'
      · exact ⟨j, t', old hj e, by rwa [bo e e2] at hl'⟩
  · rintro b' _ ⟨j, t', x, hj, hx, hn⟩
    by_cases e : j = h.next
    · subst e
      rw [(new hj).1]
      exact ⟨id, t, _, hi, hb, by simp⟩
    · by_cases e2 : j = id
      · subst e2; rw [bi] at hx; cases hx
      · exact ⟨j, t', x, old hj e, by rwa [bo e e2] at hx, hn⟩
  · intro b' hb' hn
    exact heap_setCells_ne (fun e => hn ⟨id, t, _, by rw [e]; exact hi, hb, by simp⟩) _ _ _
  · rw [size_setCells]; exact Nat.le_refl _

/-- a map written -/
theorem Rel.setMap (r : Rel lk ρ h w) {id b t : Nat} {es es' : List (AV × AV × Nat)} {cl cl' : Nat} {xs : Array MapEntry} (hi : ρ id = some (b, t)) (hb : h.blk id = some (.map es cl)) (hv : F2 (ME lk ρ) es' xs.toList) :
    Rel lk ρ (h.set id (some (.map es' cl'))) { w with heap := w.heap.setIfInBounds b (.map xs cl') } ∧ Stp ρ h w ρ (h.set id (some (.map es' cl'))) { w with heap := w.heap.setIfInBounds b (.map xs cl') } := by
  have hlt := r.lt hi
  have hne : ∀ {j b' t'}, ρ j = some (b', t') → h.blk j ≠ none → j ≠ id → b' ≠ b := fun hj hl hji e => hji (r.inj hj hi hl (by rw [hb]; simp) e)
  have same : ({ w with heap := w.heap.setIfInBounds b (.map xs cl') } : World).heap[b]? = some (.map xs cl') := by simp [hlt]
  have other : ∀ {b'}, b' ≠ b → ({ w with heap := w.heap.setIfInBounds b (.map xs cl') } : World).heap[b']? = w.heap[b']? := fun e => Array.getElem?_setIfInBounds_ne (Ne.symm e)
  have live : ∀ {k}, (h.set id (some (.map es' cl'))).blk k ≠ none → h.blk k ≠ none := fun {k} hk => by
    by_cases e : k = id
    · subst e; rw [hb]; simp
    · rwa [blk_set_ne e] at hk
  refine ⟨⟨?_, ?_, ?_, ?_, ?_⟩, ⟨fun _ _ => rfl, Nat.le_refl _, ?_, ?_, ?_, ?_, ?_, rfl, rfl, rfl⟩⟩
  · intro j b' t' cs' ro hj hbj
    have e : j ≠ id := fun e => by subst e; rw [blk_set_same] at hbj; cases hbj
    rw [blk_set_ne e] at hbj
    obtain ⟨cur', ty', fz', g1, g2, g3, g4, g5⟩ := r.row hj hbj
    exact ⟨cur', ty', fz', by rw [other (hne hj (by rw [hbj]; simp) e)]; exact g1, g2, g3, g4, g5⟩
  · intro j b' t' es2 cl2 hj hbj
    by_cases e : j = id
    · subst e
      rw [hi] at hj
      cases hj
      rw [blk_set_same] at hbj
      cases hbj
      exact ⟨xs, same, hv⟩
    · rw [blk_set_ne e] at hbj
      obtain ⟨es', g1, g2⟩ := r.map hj hbj
      exact ⟨es', by rw [other (hne hj (by rw [hbj]; simp) e)]; exact g1, g2⟩
  · intro i j bi ti bj tj hi' hj' hbi hbj e
    exact r.inj hi' hj' (live hbi) (live hbj) e
  · intro j b' t' hj
    simpa using r.lt hj
  · intro j hj
    rw [blk_set_ne (fun e => by subst e; have := r.wf j hj; rw [hb] at this; cases this)]
    exact r.wf j hj
  · intro j hj hr
    exact blk_set_ne (fun e => by subst e; rw [hi] at hr; cases hr)
  · rintro b' _ ⟨j, t', hj, hl⟩
    exact ⟨j, t', hj, live hl⟩
  · rintro b' _ ⟨j, t', x, hj, hx, hn⟩
    by_cases e : j = id
    · subst e; exact ⟨j, t', _, hj, hb, by simp⟩
    · exact ⟨j, t', x, hj, by rwa [blk_set_ne e] at hx, hn⟩
  · intro b' _ hn
    exact other (fun e => hn ⟨id, t, _, by rw [e]; exact hi, hb, by simp⟩)
  · simp
end
end Go.Proofs.Ytpgoemmjhnnmoaa.Ab
