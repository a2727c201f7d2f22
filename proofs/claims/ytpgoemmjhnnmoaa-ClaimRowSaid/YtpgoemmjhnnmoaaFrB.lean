/- The frame of a law, second part: the arguments as values that stay, whatever else the memory holds. -/
import Derived.Test.YtpgoemmjhnnmoaaFrA
import Derived.Test.YtpgoemmjhnnmoaaSx14
import Derived.ChangeArms
namespace Go.Proofs.Ytpgoemmjhnnmoaa.Ab
open Go Go.ChangeShapes Go.RowKit
set_option linter.unusedVariables false
/-- a value of the model, as the first machine has it -/
def cvV (W : World) : Value → AV
  | .bool x => .b x
  | .int k n => .i k n
  | .string y => .s y.data.toList
  | .pointer none => .nilp
  | .slice none 0 0 => .nils
  | .slice (some _) 0 0 => .es
  | .slice (some ⟨b, o, none⟩) len cap =>
    match W.heap[b]? with
    | some (.cells _ _ _) => if len ≤ cap then .sl b o len cap 0 else .un
    | _ => .un
  | _ => .un
def mirρ (W : World) : Rho := fun b => match W.heap[b]? with | some (.cells c _ _) => some (b, c.size) | _ => none
def mirF (W : World) : Fro := fun b => match W.heap[b]? with | some (.cells c _ _) => some (c.toList.map (cvV W)) | _ => none
def mirH (W : World) : AH := ⟨W.heap.size, fun b => (mirF W b).map fun cs => .row cs true⟩
def mirW (W : World) : Wd := ⟨fun _ => none, mirF W, fun _ => 0⟩
section
variable {lk : Lk} {W : World}
theorem cvV_vc (v : Value) (h : cvV W v ≠ .un) : VC lk (mirρ W) (cvV W v) v := by
  unfold cvV at h ⊢
  split at h
  · exact .b _
  · exact .i _ _
  · exact .s _ _ rfl
  · exact .nilp
  · exact .nils
  · exact .es _
  · rename_i b o len cap _
    split at h
    · rename_i c e fz hb
      have hρ : mirρ W b = some (b, c.size) := by simp only [mirρ, hb]
      split at h
      · rename_i hl
        simp only [if_pos hl]
        exact .sl hρ hl (Nat.le_refl _) (fun _ => rfl) (.inl rfl) (fun h => absurd rfl h)
      · exact (h rfl).elim
    · exact (h rfl).elim
  · exact (h rfl).elim
theorem cvV_vu (v : Value) : VU lk (mirρ W) (cvV W v) v := by
  by_cases h : cvV W v = .un
  · exact .inl h
  · exact .inr (cvV_vc v h)
theorem mir_rel : Rel lk (mirρ W) (mirH W) W := by
  have hρ : ∀ {id b t : Nat}, mirρ W id = some (b, t) → b = id ∧ ∃ c e fz, W.heap[id]? = some (.cells c e fz) ∧ c.size = t := fun {id b t} h => by
    unfold mirρ at h
    split at h
    · rename_i c e fz hb; cases h; exact ⟨rfl, c, e, fz, hb, rfl⟩
    · cases h
  refine ⟨fun {id b t cs ro} hi hb => ?_, fun {id b t es cl} hi hb => ?_, fun {i j b t b' t'} hi hj _ _ he => ?_, fun {id b t} hi => ?_, fun id hid => ?_⟩
  · obtain ⟨rfl, c, e, fz, h1, h2⟩ := hρ hi
    simp only [mirH, mirF, h1, Option.map_some] at hb
    cases hb
    refine ⟨c, e, fz, h1, h2, by simp [h2], (fun h => by cases h), fun j x hx => ?_⟩
    obtain ⟨y, hy, rfl⟩ := get_map hx
    exact ⟨y, by simpa using hy, cvV_vu y⟩
  · obtain ⟨rfl, c, e, fz, h1, h2⟩ := hρ hi
    simp only [mirH, mirF, h1, Option.map_some] at hb
    cases hb
  · rw [(hρ hi).1, (hρ hj).1] at he; exact he
  · obtain ⟨rfl, c, e, fz, h1, h2⟩ := hρ hi
    exact (Array.getElem?_eq_some_iff.1 h1).1
  · simp only [mirH] at hid ⊢
    have : W.heap[id]? = none := Array.getElem?_eq_none hid
    simp only [mirF, this, Option.map_none]
theorem mir_free : ∀ id, (mirH W).next ≤ id → mirρ W id = none := fun id hid => by
  have : W.heap[id]? = none := Array.getElem?_eq_none hid
  simp only [mirρ, this]
theorem mir_ro : ∀ b, ¬ Wr (mirρ W) (mirH W) b := fun b ⟨id, t, x, h1, h2, h3⟩ => by
  simp only [mirH, Option.map_eq_some_iff] at h2
  obtain ⟨cs, _, rfl⟩ := h2
  exact h3 cs rfl
theorem mir_rh : RH (mirW W) [] (mirH W) := by
  refine ⟨fun i j b b' c h => by simp at h, fun i c h => by simp at h, fun i b c h => by simp at h, fun id row hf => ?_, fun i b c h => by simp at h, fun i b h => by simp at h⟩
  have hf : mirF W id = some row := hf
  refine ⟨?_, true, by simp only [mirH, hf, Option.map_some]⟩
  unfold mirF at hf
  split at hf
  · rename_i hb; exact (Array.getElem?_eq_some_iff.1 hb).1
  · cases hf
end
/-! ### what a reading says of cells -/
section
variable {P : Program} {W : World}
/-- of a type: cells that are read as one of its values are values that stay, of a certain form -/
structure Op (P : Program) (W : World) (t : TypeId) (n : Nat) (S : List PV → Prop) : Prop where
  go : ∀ {H : Type} {enc : TypeId × Value → H} {held : Bool} {fuel : Nat} {cs : List Value} {x : DataW H × List MemPlace}, DataW.trod enc P W 0 (fun _ => true) held fuel t cs = some x → ∃ ps, P2 (RP (mirF W)) ps (cs.map (cvV W)) ∧ S ps ∧ ps.length = n
theorem op_int {t : TypeId} {k : IntKind} (ht : P.underlying t = some (.int k)) : Op P W t 1 fun ps => ∃ n, k.min ≤ n ∧ n ≤ k.max ∧ ps = [.i k n] := ⟨fun h => by
  obtain ⟨n, rfl, _, hw⟩ := DataW.trod_int ht h
  simp only [Lit.wf, Bool.and_eq_true, decide_eq_true_eq] at hw
  exact ⟨[.i k n], .one (.i _ _), ⟨n, hw.1, hw.2, rfl⟩, rfl⟩⟩
theorem op_bool {t : TypeId} (ht : P.underlying t = some .bool) : Op P W t 1 fun ps => ∃ b, ps = [.b b] := ⟨fun h => by
  obtain ⟨b, rfl, _⟩ := DataW.trod_bool ht h
  exact ⟨[.b b], .one (.b _), ⟨b, rfl⟩, rfl⟩⟩
theorem op_string {t : TypeId} (ht : P.underlying t = some .string) : Op P W t 1 fun ps => ∃ l, l.length ≤ 9223372036854775807 ∧ ps = [.s l] := ⟨fun h => by
  obtain ⟨s, rfl, _, hl⟩ := DataW.trod_string ht h
  refine ⟨[.s s.data.toList], .one (.s _), ⟨_, ?_, rfl⟩, rfl⟩
  rw [Array.length_toList]
  exact hl⟩
/-- fields, one behind the other -/
def Parts : List (Nat × (List PV → Prop)) → List PV → Prop
  | [], ps => ps = []
  | (n, S) :: r, ps => ∃ a b, ps = a ++ b ∧ S a ∧ a.length = n ∧ Parts r b
def fieldsAt (fs : List (TypeId × Nat × (List PV → Prop))) : Nat := (fs.map fun f => f.2.1).sum
theorem parts_go {H : Type} {enc : TypeId × Value → H} {held : Bool} {fuel : Nat} {cs : List Value} : ∀ (fs : List (TypeId × Nat × (List PV → Prop))) (o : Nat), (∀ f ∈ fs, Op P W f.1 f.2.1 f.2.2) → cs.length = o + fieldsAt fs →
    (∀ (i : Nat) f, fs[i]? = some f → ∃ x, DataW.trod enc P W 0 (fun _ => true) held fuel f.1 ((cs.drop (o + fieldsAt (fs.take i))).take f.2.1) = some x) → ∃ ps, P2 (RP (mirF W)) ps ((cs.drop o).map (cvV W)) ∧ Parts (fs.map (·.2)) ps ∧ ps.length = fieldsAt fs
  | [], o, _, hl, _ => by
    have : cs.drop o = [] := List.drop_eq_nil_of_le (by simp [fieldsAt] at hl; omega)
    rw [this]
    exact ⟨[], .nil, rfl, rfl⟩
  | (t, n, S) :: fs, o, hf, hl, hx => by
    have hsum : fieldsAt ((t, n, S) :: fs) = n + fieldsAt fs := by simp [fieldsAt]
    rw [hsum] at hl ⊢
    obtain ⟨x, h0⟩ := hx 0 (t, n, S) rfl
    simp only [List.take_zero, fieldsAt, List.map_nil, List.sum_nil, Nat.add_zero] at h0
    obtain ⟨a, a1, a2, a3⟩ := (hf _ (.head _)).go h0
    obtain ⟨b, b1, b2, b3⟩ := parts_go (enc := enc) (held := held) (fuel := fuel) (cs := cs) fs (o + n) (fun f h => hf f (.tail _ h)) (by omega) fun i f hi => by
      obtain ⟨y, hy⟩ := hx (i + 1) f (by simpa using hi)
      refine ⟨y, ?_⟩
      rw [← hy]
      simp only [List.take_succ_cons, fieldsAt, List.map_cons, List.sum_cons]
      rw [Nat.add_assoc]
    refine ⟨a ++ b, ?_, ⟨a, b, rfl, a2, a3, b2⟩, by simp only at a3; rw [List.length_append, a3, b3]⟩
    have : cs.drop o = (cs.drop o).take n ++ cs.drop (o + n) := by
      rw [← List.drop_drop, List.take_append_drop]
    rw [this, List.map_append]
    exact a1.append b1
theorem op_struct {t : TypeId} {fs : Array Field} (ht : P.underlying t = some (.struct fs)) (L : List (TypeId × Nat × (List PV → Prop))) (hL : ∀ f ∈ L, Op P W f.1 f.2.1 f.2.2) (hlen : fs.size = L.length)
    (hfs : ∀ (i : Nat) f, L[i]? = some f → ∃ g : Field, fs[i]? = some g ∧ g.type = f.1 ∧ g.offset = fieldsAt (L.take i) ∧ P.cellsOf f.1 = f.2.1) (hc : P.cellsOf t = fieldsAt L) : Op P W t (fieldsAt L) (Parts (L.map (·.2))) := ⟨fun h => by
  obtain ⟨xs, n, rfl, rfl, hcl, hxl, hx⟩ := DataW.trod_struct ht h
  have := parts_go L 0 hL (by rw [hcl, hc]; omega) fun i f hi => by
    obtain ⟨g, h1, h2, h3, h4⟩ := hfs i f hi
    have h5 := hx i g h1
    rw [h2, h3, h4] at h5
    have hil : i < xs.length := by rw [hxl, hlen]; exact (List.getElem?_eq_some_iff.1 hi).1
    rw [List.getElem?_eq_getElem hil] at h5
    exact ⟨_, by rw [Nat.zero_add]; exact h5⟩
  simpa using this⟩
theorem sum_rep (k m : Nat) : (List.replicate k m).sum = k * m := by
  induction k with
  | zero => simp
  | succ k ih => rw [List.replicate_succ, List.sum_cons, ih, Nat.succ_mul]; omega
theorem op_array {t e : TypeId} {n m : Nat} {S : List PV → Prop} (ht : P.underlying t = some (.array n e)) (he : Op P W e m S) (hm : P.cellsOf e = m) (hc : P.cellsOf t = n * m) : Op P W t (n * m) (Parts (List.replicate n (m, S))) := ⟨fun h => by
  obtain ⟨xs, f, rfl, rfl, hcl, hxl, hx⟩ := DataW.trod_array ht h
  have hfa : ∀ k, fieldsAt (List.replicate k (e, m, S)) = k * m := fun k => by simp only [fieldsAt, List.map_replicate]; exact sum_rep k m
  have := parts_go (W := W) (List.replicate n (e, m, S)) 0 (fun g hg => by rw [List.eq_of_mem_replicate hg]; exact he) (by rw [hcl, hc, hfa]; omega) fun i g hi => by
    have hil : i < n := by have := (List.getElem?_eq_some_iff.1 hi).1; simpa using this
    have hg : g = (e, m, S) := List.eq_of_mem_replicate (List.mem_of_getElem? hi)
    subst hg
    have h5 := hx i hil
    rw [List.getElem?_eq_getElem (by omega), hm] at h5
    rw [List.take_replicate, hfa, Nat.min_eq_left (by omega), Nat.zero_add]
    exact ⟨_, h5⟩
  rw [hfa] at this
  simpa [List.map_replicate] using this⟩
/-- elements at a place in a row -/
theorem cells_at {a : Addr} {n : Nat} {cs : List Value} (h : W.cells? 0 a n = some cs) (hn : 0 < n) : a.spot = none ∧ ∃ c e fz, W.heap[a.block]? = some (.cells c e fz) ∧ a.off + n ≤ c.size ∧ cs.length = n ∧ ∀ j, j < n → cs[j]? = c[a.off + j]? := by
  simp only [World.cells?, Nat.zero_le, if_true] at h
  have hl := mapM_some_length h
  simp only [List.length_range] at hl
  have hg : ∀ j, j < n → W.cell? (a.add j) = cs[j]? := fun j hj => mapM_some_get h j j (by simp [hj])
  have h0 := hg 0 hn
  rw [List.getElem?_eq_getElem (by omega)] at h0
  simp only [Addr.add, if_true] at h0
  simp only [World.cell?] at h0
  split at h0
  · rename_i c e fz hb
    split at h0
    · cases h0
    · rename_i hs
      have hs : a.spot = none := by simpa using hs
      have hall : ∀ j, j < n → cs[j]? = c[a.off + j]? := fun j hj => by
        rw [← hg j hj]
        by_cases hj0 : j = 0
        · subst hj0; simp [Addr.add, World.cell?, hb, hs]
        · simp [Addr.add, hj0, World.cell?, hb]
      refine ⟨hs, c, e, fz, hb, ?_, hl, hall⟩
      have := hall (n - 1) (by omega)
      rw [List.getElem?_eq_getElem (by omega)] at this
      have := (Array.getElem?_eq_some_iff.1 this.symm).1
      omega
  · cases h0
theorem op_slice {t e : TypeId} {m : Nat} {S : List PV → Prop} (ht : P.underlying t = some (.slice e)) (he : Op P W e m S) (hm : P.cellsOf e = m) (h0 : 0 < m) {H : Type} {enc : TypeId × Value → H} {held : Bool} {fuel : Nat} {v : Value} {x : DataW H × List MemPlace}
    (h : DataW.trod enc P W 0 (fun _ => true) held fuel t [v] = some x) :
    ∃ els, (∀ el ∈ els, S el ∧ el.length = m) ∧ els.length ≤ 9223372036854775807 ∧ RP (mirF W) (.fz m els) (cvV W v) := by
  rcases DataW.trod_slice ht h with ⟨hv, _⟩ | ⟨a, len, cap, elems, rest, n, rfl, hv, _, _, hle, hmax, hel, hget, hspare, _⟩
  · cases hv
    exact ⟨[], by simp, by simp, .fz0 _⟩
  · cases hv
    have hmax' : cap ≤ 9223372036854775807 := hmax
    rw [hm] at hget
    by_cases hc0 : cap = 0
    · subst hc0
      obtain rfl : len = 0 := by omega
      exact ⟨[], by simp, by simp, .fz1 _⟩
    · -- the row
      have hone : ∃ i cs, W.cells? 0 (a.add (i * m)) m = some cs := by
        by_cases hl0 : len = 0
        · obtain ⟨hrl, hr⟩ := hspare rfl
          have := hr 0 (by omega)
          rw [List.getElem?_eq_getElem (by omega)] at this
          obtain ⟨cs, h1, _⟩ := Option.bind_eq_some_iff.1 this
          rw [hm] at h1
          exact ⟨_, cs, h1⟩
        · have := hget 0 (by omega)
          rw [List.getElem?_eq_getElem (by omega)] at this
          obtain ⟨cs, h1, _⟩ := Option.bind_eq_some_iff.1 this
          exact ⟨_, cs, h1⟩
      obtain ⟨i0, cs0, h1⟩ := hone
      obtain ⟨hs1, c, e', fz, hb, _⟩ := cells_at h1 h0
      have hblk : ∀ i, (a.add i).block = a.block := fun i => by unfold Addr.add; split <;> rfl
      rw [hblk] at hb
      have hoff : ∀ i, (a.add i).off = a.off + i := fun i => by unfold Addr.add; split <;> simp_all
      -- each element
      have hev : ∀ i, i < len → ∃ ps, P2 (RP (mirF W)) ps ((((c.toList.map (cvV W)).drop (a.off + i * m)).take m)) ∧ S ps ∧ ps.length = m ∧ a.off + i * m + m ≤ c.size := fun i hi => by
        have := hget i hi
        rw [List.getElem?_eq_getElem (by omega)] at this
        obtain ⟨cs, h2, h3⟩ := Option.bind_eq_some_iff.1 this
        obtain ⟨_, c', e2, fz2, hb2, hsz, hcl, hcg⟩ := cells_at h2 h0
        rw [hblk, hb] at hb2
        cases hb2
        rw [hoff] at hsz hcg
        obtain ⟨ps, p1, p2, p3⟩ := he.go h3
        refine ⟨ps, ?_, p2, p3, hsz⟩
        have : (((c.toList.map (cvV W)).drop (a.off + i * m)).take m) = cs.map (cvV W) := by
          apply List.ext_getElem?
          intro j
          rw [List.getElem?_take]
          split
          · rename_i hj
            rw [List.getElem?_drop, List.getElem?_map, List.getElem?_map, hcg j hj]
            simp
          · rename_i hj
            rw [List.getElem?_eq_none (by simp; omega)]
        rw [this]
        exact p1
      -- a place without a spot
      have hspot : a.spot = none := by
        by_cases hl0 : len = 0
        · obtain ⟨hrl, hr⟩ := hspare rfl
          have := hr 0 (by omega)
          rw [List.getElem?_eq_getElem (by omega)] at this
          obtain ⟨cs, h2, _⟩ := Option.bind_eq_some_iff.1 this
          rw [hm, hl0] at h2
          exact (cells_at (a := a) (by simpa [Addr.add] using h2) h0).1
        · have := hget 0 (by omega)
          rw [List.getElem?_eq_getElem (by omega)] at this
          obtain ⟨cs, h2, _⟩ := Option.bind_eq_some_iff.1 this
          exact (cells_at (a := a) (by simpa [Addr.add] using h2) h0).1
      have hoffc : a.off ≤ c.size := by
        by_cases hl0 : len = 0
        · obtain ⟨hrl, hr⟩ := hspare rfl
          have := hr 0 (by omega)
          rw [List.getElem?_eq_getElem (by omega)] at this
          obtain ⟨cs, h2, _⟩ := Option.bind_eq_some_iff.1 this
          rw [hm] at h2
          obtain ⟨_, c', e2, fz2, hb2, hsz, _⟩ := cells_at h2 h0
          rw [hblk, hb] at hb2
          cases hb2
          rw [hoff] at hsz
          omega
        · obtain ⟨_, _, _, _, h⟩ := hev 0 (by omega)
          omega
      obtain ⟨els, hels, hlen⟩ : ∃ els : List (List PV), (∀ i el, els[i]? = some el → P2 (RP (mirF W)) el ((((c.toList.map (cvV W)).drop (a.off + i * m)).take m)) ∧ S el ∧ el.length = m) ∧ els.length = len := by
        have : ∀ k, k ≤ len → ∃ els : List (List PV), (∀ i el, els[i]? = some el → P2 (RP (mirF W)) el ((((c.toList.map (cvV W)).drop (a.off + i * m)).take m)) ∧ S el ∧ el.length = m) ∧ els.length = k := fun k => by
          induction k with
          | zero => intro _; exact ⟨[], fun i el h => by simp at h, rfl⟩
          | succ k ih =>
            intro hk
            obtain ⟨els, e1, e2⟩ := ih (by omega)
            obtain ⟨ps, p1, p2, p3, _⟩ := hev k (by omega)
            refine ⟨els ++ [ps], fun i el hi => ?_, by simp [e2]⟩
            by_cases hik : i < els.length
            · rw [List.getElem?_append_left hik] at hi; exact e1 i el hi
            · rw [List.getElem?_append_right (by omega)] at hi
              have : i = k := by
                have := (List.getElem?_eq_some_iff.1 hi).1
                simp at this; omega
              subst this
              rw [e2, Nat.sub_self] at hi
              cases hi
              exact ⟨p1, p2, p3⟩
        exact this len (Nat.le_refl _)
      have hfit : a.off + len * m ≤ c.size := by
        by_cases hl0 : len = 0
        · rw [hl0]; omega
        · obtain ⟨_, _, _, _, h⟩ := hev (len - 1) (by omega)
          have : (len - 1) * m + m = len * m := by rw [← Nat.succ_mul]; congr 1; omega
          omega
      refine ⟨els, fun el hel' => ?_, by omega, ?_⟩
      · obtain ⟨i, hi⟩ := List.mem_iff_getElem?.1 hel'
        exact (hels i el hi).2
      · obtain ⟨b, o, s⟩ := a
        simp only at hspot hb hfit hels
        subst hspot
        have hcv : cvV W (.slice (some ⟨b, o, none⟩) len cap) = .sl b o len cap 0 := by simp [cvV, hb, hle, hc0]
        rw [hcv]
        refine .fz (row := c.toList.map (cvV W)) (by simp only [mirF, hb]) h0 hlen hle (.inl rfl) (by simpa using hfit) (fun j el h => (hels j el h).2.2) (fun j el t x y h1 h2 h3 => ?_)
        have hp := (hels j el h1).1
        have htm : t < m := by have := (List.getElem?_eq_some_iff.1 h2).1; rw [(hels j el h1).2.2] at this; exact this
        refine hp.2 t x y h2 ?_
        rw [List.getElem?_take, if_pos htm, List.getElem?_drop]
        exact h3
/-- a list within something else -/
def isSl (m : Nat) (S : List PV → Prop) (ps : List PV) : Prop := ∃ els, (∀ el ∈ els, S el ∧ el.length = m) ∧ els.length ≤ 9223372036854775807 ∧ ps = [.fz m els]
theorem op_list {t e : TypeId} {m : Nat} {S : List PV → Prop} (ht : P.underlying t = some (.slice e)) (he : Op P W e m S) (hm : P.cellsOf e = m) (h0 : 0 < m) : Op P W t 1 (isSl m S) := ⟨fun {H enc held fuel cs x} h => by
  have hv : ∃ v, cs = [v] := by
    rcases DataW.trod_slice ht h with ⟨hv, _⟩ | ⟨a, len, cap, elems, rest, n, rfl, hv, _⟩
    · exact ⟨_, hv⟩
    · exact ⟨_, hv⟩
  obtain ⟨v, rfl⟩ := hv
  obtain ⟨els, a, b, c⟩ := op_slice ht he hm h0 h
  exact ⟨[.fz m els], .one c, ⟨els, a, b, rfl⟩, rfl⟩⟩
/-- one cell that is read as of a type of one cell -/
theorem op_cell {t : TypeId} {S : List PV → Prop} (ho : Op P W t 1 S) {H : Type} {enc : TypeId × Value → H} {held : Bool} {fuel : Nat} {v : Value} {x : DataW H × List MemPlace} (h : DataW.trod enc P W 0 (fun _ => true) held fuel t [v] = some x) :
    ∃ p, S [p] ∧ RP (mirF W) p (cvV W v) := by
  obtain ⟨ps, h1, h2, h3⟩ := ho.go h
  match ps, h3 with
  | [p], _ => exact ⟨p, h2, h1.2 0 p (cvV W v) rfl rfl⟩
/-- elements of a form are the cells of things -/
theorem els_map {α : Type} {f : α → List PV} {S : List PV → Prop} (hS : ∀ ps, S ps → ∃ x, ps = f x) : ∀ (els : List (List PV)), (∀ el ∈ els, S el) → ∃ l : List α, els = l.map f
  | [], _ => ⟨[], rfl⟩
  | el :: els, h => by
    obtain ⟨x, rfl⟩ := hS el (h el (.head _))
    obtain ⟨l, rfl⟩ := els_map hS els fun e he => h e (.tail _ he)
    exact ⟨x :: l, rfl⟩
end
/-- what a law comes to in the model, over the second machine -/
theorem law_calls2 {P : Program} {lk : Lk} {T : AT} (hT : TOk P lk T) (hmix : P.follows .mixedOrders = true) {f : Nat} {g : FuncId} (hg : lk f = some g) {args : List SV} (hr : Ret2 T 0 f args [] fun v _ => v = .b true) {W : World} {xs : Array Value} {cargs : List AV}
    (hc : P2 (RS (mirW W) 0) args cargs) (hx : F2 (VE lk (mirρ W)) cargs xs.toList) : Calls P g xs W fun e W' => e = .returned (.bool true) ∧ SameOld W W' ∧ W'.os = W.os ∧ W'.output = W.output := by
  obtain ⟨n, cv, ch', w', v, h', h1, rfl, h3, h4, h5⟩ := hr.run (mirW W) cargs (mirH W) mir_rh hc
  cases h4 with | p h4 => cases h4 with | b =>
  exact law_calls hT hmix hg ⟨n, _, _, h1, rfl⟩ mir_rel hx mir_free mir_ro
end Go.Proofs.Ytpgoemmjhnnmoaa.Ab
