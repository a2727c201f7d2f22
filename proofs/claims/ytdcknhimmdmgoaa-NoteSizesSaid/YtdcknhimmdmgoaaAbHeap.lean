/- The memory of the machine: slices that can be read, slices that can be added to; what stays. -/
import Derived.Test.YtdcknhimmdmgoaaAbLogic
namespace Go.Proofs.Ytdcknhimmdmgoaa.Ab
open Go
set_option linter.unusedVariables false

/-! ### what stays -/
/-- all blocks stay but the one of 'o', in whose place 'o'' comes: that one, none, or a new one -/
def Grow (o : Option Nat) (h : AH) (o' : Option Nat) (h' : AH) : Prop :=
  h.next ≤ h'.next ∧ (∀ id, id < h.next → o ≠ some id → h'.blk id = h.blk id) ∧ (o' = o ∨ o' = none ∨ ∃ i, o' = some i ∧ h.next ≤ i)
/-- all blocks stay -/
abbrev Ext (h h' : AH) : Prop := Grow none h none h'
theorem Grow.refl (o : Option Nat) (h : AH) : Grow o h o h := ⟨Nat.le_refl _, fun _ _ _ => rfl, .inl rfl⟩
theorem Grow.trans {o o1 o2 : Option Nat} {h h1 h2 : AH} (g : Grow o h o1 h1) (g' : Grow o1 h1 o2 h2) : Grow o h o2 h2 := by
  obtain ⟨a1, a2, a3⟩ := g
  obtain ⟨b1, b2, b3⟩ := g'
  refine ⟨Nat.le_trans a1 b1, fun id hid ho => ?_, ?_⟩
  · rw [b2 id (by omega) ?_, a2 id hid ho]
    rcases a3 with rfl | rfl | ⟨i, rfl, hi⟩
    · exact ho
    · simp
    · intro e; cases e; omega
  · rcases b3 with rfl | rfl | ⟨i, rfl, hi⟩
    · exact a3
    · exact .inr (.inl rfl)
    · exact .inr (.inr ⟨i, rfl, by omega⟩)
theorem Grow.ext {h h1 h2 : AH} (g : Ext h h1) (g' : Ext h1 h2) : Ext h h2 := g.trans g'
/-- what is made here may be turned -/
theorem Grow.fresh {o o2 : Option Nat} {h h1 h2 : AH} (g : Ext h h1) (hf : ∀ i, o = some i → h.next ≤ i) (g' : Grow o h1 o2 h2) : Ext h h2 := by
  obtain ⟨a1, a2, _⟩ := g
  obtain ⟨b1, b2, b3⟩ := g'
  refine ⟨Nat.le_trans a1 b1, fun id hid ho => ?_, .inl rfl⟩
  rw [b2 id (by omega) (fun e => by have := hf id e; omega), a2 id hid ho]
theorem Grow.of_ext {o : Option Nat} {h h1 : AH} (g : Ext h h1) : Grow o h o h1 := ⟨g.1, fun id h1 _ => g.2.1 id h1 (by simp), .inl rfl⟩
theorem Grow.none {o o' : Option Nat} {h h1 : AH} (g : Grow o h o' h1) : Grow o h .none h1 := ⟨g.1, g.2.1, .inr (.inl rfl)⟩
theorem ext_alloc (h : AH) (B : Blk) : Ext h (h.alloc B) := ⟨Nat.le_succ _, fun id hid _ => by simp [AH.alloc]; omega, .inl rfl⟩
theorem Grow.alloc {o o1 : Option Nat} {h h1 : AH} (g : Grow o h o1 h1) (B : Blk) : Grow o h o1 (h1.alloc B) := g.trans (Grow.of_ext (ext_alloc h1 B))
theorem Grow.new {o o1 : Option Nat} {h h1 : AH} (g : Grow o h o1 h1) (B : Blk) : Grow o h (some h1.next) (h1.alloc B) :=
  ⟨Nat.le_trans g.1 (Nat.le_succ _), (g.alloc B).2.1, .inr (.inr ⟨_, rfl, g.1⟩)⟩
theorem blk_alloc (h : AH) (B : Blk) : (h.alloc B).blk h.next = some B := by simp [AH.alloc]
theorem blk_old {h : AH} {B : Blk} {j : Nat} (hj : j < h.next) : (h.alloc B).blk j = h.blk j := by simp [AH.alloc]; omega

theorem blk_ne {h : AH} {B : Blk} {j : Nat} (hj : j ≠ h.next) : (h.alloc B).blk j = h.blk j := by simp [AH.alloc, hj]
theorem nx_alloc (h : AH) (B : Blk) : (h.alloc B).next = h.next + 1 := rfl
theorem alloc_set (h : AH) (B B' : Blk) : (h.alloc B).set h.next (some B') = h.alloc B' := by
  simp only [AH.alloc, AH.set]
  congr 1
  funext j
  by_cases hj : j = h.next <;> simp [hj]
theorem Ext.blk {h h' : AH} (g : Ext h h') {id : Nat} {B : Blk} (hb : h.blk id = some B) (hid : id < h.next) : h'.blk id = some B := by rw [g.2.1 id hid (by simp)]; exact hb
theorem Grow.blk {o o' : Option Nat} {h h' : AH} (g : Grow o h o' h') {id : Nat} {B : Blk} (hb : h.blk id = some B) (hid : id < h.next) (ho : o ≠ some id) : h'.blk id = some B := by rw [g.2.1 id hid ho]; exact hb
theorem tp_i (k : IntKind) (n : Int) : (AV.i k n).isTup = false := rfl
theorem tp_b (b : Bool) : (AV.b b).isTup = false := rfl
theorem tp_s (s : List UInt8) : (AV.s s).isTup = false := rfl
theorem tp_nils : AV.nils.isTup = false := rfl
theorem tp_nilp : AV.nilp.isTup = false := rfl
theorem tp_sl (a b c d e : Nat) : (AV.sl a b c d e).isTup = false := rfl
theorem tp_ptr (a b : Nat) : (AV.ptr a b).isTup = false := rfl
theorem tp_agg (l : List AV) : (AV.agg l).isTup = false := rfl
/-! ### reading -/
theorem rd_of_blk {h : AH} {id off : Nat} {cs : List AV} {ro : Bool} {v : AV} (hb : h.blk id = some (.row cs ro)) (hv : cs[off]? = some v) (hu : v.isUn = false) : h.rd id off = some v := by
  simp [AH.rd, hb, hv, hu]
theorem rdn_of_blk {h : AH} {id off n : Nat} {cs : List AV} {ro : Bool} (hb : h.blk id = some (.row cs ro)) (hn : off + n ≤ cs.length) (hu : ((cs.drop off).take n).any AV.isUn = false) :
    h.rdn id off n = some ((cs.drop off).take n) := by simp only [AH.rdn, hb]; rw [if_pos ⟨hn, hu⟩]
theorem rdn_spec {h : AH} {id off n : Nat} {cs : List AV} (hr : h.rdn id off n = some cs) : ∃ row ro, h.blk id = some (.row row ro) ∧ off + n ≤ row.length ∧ cs = (row.drop off).take n ∧ cs.any AV.isUn = false ∧ cs.length = n := by
  unfold AH.rdn at hr
  split at hr
  · rename_i row ro hb
    split at hr
    · rename_i hc
      cases hr
      exact ⟨row, ro, hb, hc.1, rfl, hc.2, by simp; omega⟩
    · cases hr
  · cases hr
theorem any_take {l : List AV} {n : Nat} (h : l.any AV.isUn = false) : (l.take n).any AV.isUn = false := by
  rw [List.any_eq_false] at h ⊢
  exact fun x hx => h x (List.mem_of_mem_take hx)
theorem any_drop {l : List AV} {n : Nat} (h : l.any AV.isUn = false) : (l.drop n).any AV.isUn = false := by
  rw [List.any_eq_false] at h ⊢
  exact fun x hx => h x (List.mem_of_mem_drop hx)
theorem rdn_part {h : AH} {id off n : Nat} {cs : List AV} (hr : h.rdn id off n = some cs) {o m : Nat} (hm : o + m ≤ n) : h.rdn id (off + o) m = some ((cs.drop o).take m) := by
  obtain ⟨row, ro, hb, hn, rfl, hu, hl⟩ := rdn_spec hr
  have e : (row.drop (off + o)).take m = (((row.drop off).take n).drop o).take m := by
    rw [List.drop_take, List.take_take, List.drop_drop, Nat.min_eq_left (by omega)]
  rw [← e]
  exact rdn_of_blk hb (by omega) (by rw [e]; exact any_take (any_drop hu))
theorem rd_part {h : AH} {id off n : Nat} {cs : List AV} (hr : h.rdn id off n = some cs) {j : Nat} {v : AV} (hv : cs[j]? = some v) : h.rd id (off + j) = some v := by
  obtain ⟨row, ro, hb, hn, rfl, hu, hl⟩ := rdn_spec hr
  have hj := (List.getElem?_eq_some_iff.1 hv).1
  rw [List.getElem?_take, if_pos (by omega), List.getElem?_drop] at hv
  refine rd_of_blk hb hv ?_
  have := List.any_eq_false.1 hu v (List.mem_of_getElem? (i := j) (by rw [List.getElem?_take, if_pos (by omega), List.getElem?_drop]; exact hv))
  simpa using this
theorem rdn_same {h h' : AH} {id off n : Nat} (e : h'.blk id = h.blk id) : h'.rdn id off n = h.rdn id off n := by simp only [AH.rdn, e]
theorem rd_same {h h' : AH} {id off : Nat} (e : h'.blk id = h.blk id) : h'.rd id off = h.rd id off := by simp only [AH.rd, e]

/-- a slice that can be read: its cells -/
inductive Sli (esz : Nat) (h : AH) : AV → List AV → Prop
  | nils : Sli esz h .nils []
  | sl {id off len cap lo : Nat} {cs : List AV} (hr : h.rdn id off (len * esz) = some cs) (hid : id < h.next) (hc : len ≤ cap) (hlo : lo = 0 ∨ lo = esz) : Sli esz h (.sl id off len cap lo) cs
def sid : AV → Option Nat
  | .sl id _ _ _ _ => some id
  | _ => none
theorem Sli.keep {esz : Nat} {h h' : AH} {v : AV} {cs : List AV} (s : Sli esz h v cs) (hn : h.next ≤ h'.next) (hb : ∀ id, sid v = some id → id < h.next → h'.blk id = h.blk id) : Sli esz h' v cs := by
  cases s with
  | nils => exact .nils
  | sl hr hid hc hlo => exact .sl (by rw [rdn_same (hb _ rfl hid)]; exact hr) (by omega) hc hlo
theorem Sli.grow {esz : Nat} {h h' : AH} {v : AV} {cs : List AV} (s : Sli esz h v cs) {o o' : Option Nat} (g : Grow o h o' h') (ho : ∀ id, sid v = some id → o ≠ some id) : Sli esz h' v cs :=
  s.keep g.1 fun id h1 h2 => g.2.1 id h2 (ho id h1)
theorem Sli.ext {esz : Nat} {h h' : AH} {v : AV} {cs : List AV} (s : Sli esz h v cs) (g : Ext h h') : Sli esz h' v cs := s.grow g (by simp)
theorem Sli.show {esz : Nat} {h : AH} {v : AV} {cs : List AV} (s : Sli esz h v cs) (he : 0 < esz) : ashow esz v h = some (cs.length / esz, cs) := by
  cases s with
  | nils => simp [ashow]
  | sl hr hid hc hlo =>
    have := (rdn_spec hr).choose_spec.choose_spec.2.2.2.2
    simp only [ashow, hr, Option.map_some]
    rw [this, Nat.mul_div_cancel _ he]
theorem Sli.len {esz : Nat} {h : AH} {v : AV} {cs : List AV} (s : Sli esz h v cs) (he : 0 < esz) : alen .sl v h = some (.i .i64 (cs.length / esz : Nat)) := by
  cases s with
  | nils => simp [alen]
  | sl hr hid hc hlo =>
    have := (rdn_spec hr).choose_spec.choose_spec.2.2.2.2
    simp only [alen]
    rw [this, Nat.mul_div_cancel _ he]
theorem Sli.known {esz : Nat} {h : AH} {v : AV} {cs : List AV} (s : Sli esz h v cs) : cs.any AV.isUn = false := by
  cases s with
  | nils => rfl
  | sl hr hid hc hlo => exact (rdn_spec hr).choose_spec.choose_spec.2.2.2.1

/-- an element of a slice: its address; its cells -/
theorem Sli.at {esz : Nat} {h : AH} {v : AV} {cs : List AV} (s : Sli esz h v cs) (he : 0 < esz) {j : Nat} (hj : j < cs.length / esz) :
    ∃ id off, aidx esz v (.i .i64 j) = some (.ptr id off) ∧ sid v = some id ∧ h.rdn id off esz = some ((cs.drop (j * esz)).take esz) ∧ ∀ t x, t < esz → cs[j * esz + t]? = some x → h.rd id (off + t) = some x := by
  cases s with
  | nils => simp at hj
  | sl hr hid hc hlo =>
    rename_i id off len cap lo
    have hl := (rdn_spec hr).choose_spec.choose_spec.2.2.2.2
    rw [hl, Nat.mul_div_cancel _ he] at hj
    refine ⟨id, off + j * esz, ?_, rfl, ?_, fun t x ht hx => ?_⟩
    · simp only [aidx]
      rw [if_pos ⟨by omega, by omega⟩]
      simp
    · refine rdn_part hr ?_
      have := Nat.mul_le_mul_right esz (Nat.succ_le_of_lt hj)
      rw [Nat.succ_mul] at this
      exact this
    · have := rd_part hr hx
      rwa [Nat.add_assoc]
theorem Sli.at1 {h : AH} {v : AV} {cs : List AV} (s : Sli 1 h v cs) {j : Nat} {x : AV} (hx : cs[j]? = some x) :
    ∃ id off, aidx 1 v (.i .i64 j) = some (.ptr id off) ∧ sid v = some id ∧ h.rd id off = some x := by
  have hj := (List.getElem?_eq_some_iff.1 hx).1
  obtain ⟨id, off, h1, h2, h3, h4⟩ := s.at (by decide) (j := j) (by simpa using hj)
  exact ⟨id, off, h1, h2, by simpa using h4 0 x (by decide) (by simpa using hx)⟩

/-! ### adding -/
theorem setl_eq : ∀ {vs row : List AV} {o : Nat}, o + vs.length ≤ row.length → setl row o vs = row.take o ++ vs ++ row.drop (o + vs.length)
  | [], row, o, h => by simp [setl]
  | v :: vs, row, o, h => by
    simp only [List.length_cons] at h
    rw [setl, setl_eq (by simp; omega)]
    have h1 : (row.set o v).take (o + 1) = row.take o ++ [v] := by
      rw [List.take_set, List.take_add_one]
      have : row[o]? = some row[o] := List.getElem?_eq_getElem (by omega)
      rw [this]
      simp only [Option.toList_some]
      rw [List.set_append_right _ _ (by simp; omega)]
      have : o - (row.take o).length = 0 := by simp; omega
      rw [this]
      rfl
    have h2 : (row.set o v).drop (o + 1 + vs.length) = row.drop (o + (vs.length + 1)) := by
      rw [List.drop_set_of_lt (by omega)]
      congr 1
      omega
    rw [h1, h2]
    simp
/-- a slice that may be added to: nobody else looks at its row -/
inductive Buf (esz : Nat) (h : AH) : AV → List AV → Option Nat → Prop
  | nils : Buf esz h .nils [] none
  | sl {id len cap lo : Nat} {cs row : List AV} (hb : h.blk id = some (.row row false)) (hid : id < h.next) (hc : len ≤ cap) (hcap : cap * esz ≤ row.length) (hlo : lo = 0 ∨ lo = esz)
      (hrow : row.take (len * esz) = cs) (hu : cs.any AV.isUn = false) : Buf esz h (.sl id 0 len cap lo) cs (some id)
theorem Buf.sli {esz : Nat} {h : AH} {v : AV} {cs : List AV} {o : Option Nat} (b : Buf esz h v cs o) : Sli esz h v cs := by
  cases b with
  | nils => exact .nils
  | sl hb hid hc hcap hlo hrow hu =>
    refine .sl ?_ hid hc hlo
    have := Nat.mul_le_mul_right esz hc
    subst hrow
    rename_i id len cap lo row
    have := rdn_of_blk (off := 0) hb (n := len * esz) (by omega) (by simpa using hu)
    simpa using this
theorem Buf.sid {esz : Nat} {h : AH} {v : AV} {cs : List AV} {o : Option Nat} (b : Buf esz h v cs o) : sid v = o := by cases b <;> rfl
theorem Buf.ext {esz : Nat} {h h' : AH} {v : AV} {cs : List AV} {o : Option Nat} (b : Buf esz h v cs o) (g : Ext h h') : Buf esz h' v cs o := by
  cases b with
  | nils => exact .nils
  | sl hb hid hc hcap hlo hrow hu => exact .sl (by rw [g.2.1 _ hid (by simp)]; exact hb) (by have := g.1; omega) hc hcap hlo hrow hu
theorem Buf.keep {esz : Nat} {h h' : AH} {v : AV} {cs : List AV} {o : Option Nat} (b : Buf esz h v cs o) {p p' : Option Nat} (g : Grow p h p' h') (hp : ∀ id, o = some id → p ≠ some id) : Buf esz h' v cs o := by
  cases b with
  | nils => exact .nils
  | sl hb hid hc hcap hlo hrow hu => exact .sl (by rw [g.2.1 _ hid (hp _ rfl)]; exact hb) (by have := g.1; omega) hc hcap hlo hrow hu
theorem Buf.ntup {esz : Nat} {h : AH} {v : AV} {cs : List AV} {o : Option Nat} (b : Buf esz h v cs o) : v.isTup = false := by cases b <;> rfl
theorem Sli.ntup {esz : Nat} {h : AH} {v : AV} {cs : List AV} (s : Sli esz h v cs) : v.isTup = false := by cases s <;> rfl
theorem Buf.lt {esz : Nat} {h : AH} {v : AV} {cs : List AV} {o : Option Nat} (b : Buf esz h v cs o) {i : Nat} (hi : o = some i) : i < h.next := by
  cases b with
  | nils => cases hi
  | sl hb hid _ _ _ _ _ => cases hi; exact hid
/-- a new row -/
theorem Buf.make {esz : Nat} (h : AH) {len lo : Nat} {cs : List AV} (hl : cs.length = len * esz) (hlo : lo = 0 ∨ lo = esz) (hu : cs.any AV.isUn = false) : Buf esz (h.alloc (.row cs false)) (.sl h.next 0 len len lo) cs (some h.next) :=
  .sl (blk_alloc h _) (Nat.lt_succ_self _) (Nat.le_refl _) (by omega) hlo (by rw [List.take_of_length_le (by omega)]) hu

theorem app_buf {esz bytes : Nat} {h : AH} {s x : AV} {cs new : List AV} {o : Option Nat} {n : Nat} (b : Buf esz h s cs o) (he : 0 < esz) (hb : 0 < bytes) (hx : ashow esz x h = some (n, new)) (hn : new.length = n * esz)
    (hu : new.any AV.isUn = false) (hroom : (cs.length / esz + n) * bytes ≤ room) : ∃ v h' o', aapp esz bytes s x h = some (v, h') ∧ Buf esz h' v (cs ++ new) o' ∧ Grow o h o' h' := by
  unfold aapp
  simp only [hx, he, hb, and_self, if_true]
  have huu : ∀ {c : List AV}, c.any AV.isUn = false → (c ++ new).any AV.isUn = false := fun h => by rw [List.any_append, h, hu]; rfl
  cases b with
  | nils =>
    by_cases h0 : n = 0
    · subst h0
      have : new = [] := List.length_eq_zero_iff.1 (by omega)
      subst this
      exact ⟨_, _, none, by simp, .nils, .refl _ _⟩
    · have hroom' : n * bytes ≤ room := by simpa using hroom
      exact ⟨_, _, some h.next, by simp only [h0, if_false, hroom', if_true]; rfl, by simpa using Buf.make h hn (.inr rfl) hu, (Grow.refl none h).new _⟩
  | sl hbk hid hc hcap hlo hrow hu1 =>
    rename_i id len cap lo row
    have hlen : cs.length = len * esz := by
      have := Nat.mul_le_mul_right esz hc
      rw [← hrow]; simp; omega
    have hdiv : cs.length / esz = len := by rw [hlen, Nat.mul_div_cancel _ he]
    rw [hdiv] at hroom
    have hsli : Sli esz h (.sl id 0 len cap lo) cs := (Buf.sl hbk hid hc hcap hlo hrow hu1).sli
    by_cases hfit : len + n ≤ cap
    · by_cases h0 : n = 0
      · subst h0
        have : new = [] := List.length_eq_zero_iff.1 (by omega)
        subst this
        exact ⟨.sl id 0 len cap lo, h, some id, by simp [hc], by simpa using Buf.sl hbk hid hc hcap hlo hrow hu1, .refl _ _⟩
      · have hle := Nat.mul_le_mul_right esz hfit
        rw [Nat.add_mul] at hle
        have hw : h.wr id (0 + len * esz) new = some (h.set id (some (.row (setl row (len * esz) new) false))) := by
          simp only [AH.wr, hbk, Nat.zero_add]
          rw [if_pos (by omega)]
        refine ⟨_, _, some id, by simp only [hfit, if_true, h0, if_false, hw, Option.map_some]; rfl, ?_, ?_⟩
        · have hs := setl_eq (row := row) (o := len * esz) (vs := new) (by omega)
          refine .sl (row := setl row (len * esz) new) (by simp [AH.set]) hid hfit (by rw [hs]; simp; omega) hlo ?_ (huu hu1)
          rw [hs, hrow, Nat.add_mul, ← hn, ← hlen, List.take_append_of_le_length (by simp), List.take_of_length_le (by simp)]
        · refine ⟨Nat.le_refl _, fun j hj hne => ?_, .inl rfl⟩
          simp only [AH.set]
          rw [if_neg (fun e => hne (by rw [e]))]
    · have hrd : h.rdn id 0 (len * esz) = some cs := by cases hsli with | sl hr _ _ _ => exact hr
      by_cases hl0 : lo = 0
      · refine ⟨_, _, some h.next, by simp only [hfit, if_false, hroom, if_true, hrd, hl0]; rfl, Buf.make h (by simp [hlen, hn, Nat.add_mul]) (.inr rfl) (huu hu1), ?_⟩
        exact (Grow.refl (some id) h).new _
      · have hle : lo = esz := hlo.resolve_left hl0
        refine ⟨_, _, some h.next, by simp only [hfit, if_false, hroom, if_true, hrd, hbk, hle, and_self, (show ¬ esz = 0 by omega)]; rfl, ?_, ?_⟩
        · have := Buf.make (esz := esz) (h.set id none) (len := len + n) (lo := esz) (cs := cs ++ new) (by simp [hlen, hn, Nat.add_mul]) (.inr rfl) (huu hu1)
          exact this
        · refine ⟨Nat.le_succ _, fun j hj hne => ?_, .inr (.inr ⟨_, rfl, Nat.le_refl _⟩)⟩
          show (if j = h.next then some (Blk.row (cs ++ new) false) else if j = id then none else h.blk j) = h.blk j
          rw [if_neg (by omega), if_neg (fun e => hne (by rw [e]))]

/-- a few elements, just made, are added -/
theorem app_lit {esz bytes : Nat} {h : AH} {s : AV} {cs lit : List AV} {o : Option Nat} {n : Nat} (b : Buf esz h s cs o) (he : 0 < esz) (hb : 0 < bytes) (hn : lit.length = n * esz)
    (hu : lit.any AV.isUn = false) (hroom : (cs.length / esz + n) * bytes ≤ room) : ∃ v h' o', aapp esz bytes s (.sl h.next 0 n n 0) (h.alloc (.row lit false)) = some (v, h') ∧ Buf esz h' v (cs ++ lit) o' ∧ Grow o h o' h' := by
  have hx : ashow esz (.sl h.next 0 n n 0) (h.alloc (.row lit false)) = some (n, lit) := by
    have := rdn_of_blk (h := h.alloc (.row lit false)) (id := h.next) (off := 0) (blk_alloc h _) (n := n * esz) (by omega) (by rw [List.drop_zero, List.take_of_length_le (by omega)]; exact hu)
    rw [List.drop_zero, List.take_of_length_le (by omega)] at this
    simp only [ashow, this, Option.map_some]
  obtain ⟨v, h', o', h1, h2, h3⟩ := app_buf (bytes := bytes) (b.ext (ext_alloc h _)) he hb hx hn hu hroom
  exact ⟨v, h', o', h1, h2, (Grow.of_ext (ext_alloc h _)).trans h3⟩

/-- an element of it is written -/
theorem buf_set {esz : Nat} {h : AH} {s : AV} {cs : List AV} {o : Option Nat} (b : Buf esz h s cs o) (he : 0 < esz) {j : Nat} (hj : j < cs.length / esz) {x : AV} {vals : List AV} (hx : x.cl = some vals) (hl : vals.length = esz) (hu : vals.any AV.isUn = false) :
    ∃ id off h', aidx esz s (.i .i64 j) = some (.ptr id off) ∧ o = some id ∧ astore esz (.ptr id off) x h = some (.tup [], h') ∧ Buf esz h' s (setl cs (j * esz) vals) o ∧ Grow o h o h' := by
  cases b with
  | nils => simp at hj
  | sl hb hid hc hcap hlo hrow hu1 =>
    rename_i id len cap lo row
    have hm := Nat.mul_le_mul_right esz hc
    have hlen : cs.length = len * esz := by rw [← hrow]; simp; omega
    rw [hlen, Nat.mul_div_cancel _ he] at hj
    have hje := Nat.mul_le_mul_right esz (Nat.succ_le_of_lt hj)
    rw [Nat.succ_mul] at hje
    refine ⟨id, 0 + j * esz, h.set id (some (.row (setl row (j * esz) vals) false)), ?_, rfl, ?_, ?_, ?_⟩
    · simp only [aidx]
      rw [if_pos ⟨by omega, by omega⟩]
      simp
    · simp only [astore, hx, AH.wr, hb, Nat.zero_add]
      rw [if_pos hl, if_pos (by omega)]
      rfl
    · have hs := setl_eq (row := row) (o := j * esz) (vs := vals) (by omega)
      have hs' := setl_eq (row := cs) (o := j * esz) (vs := vals) (by omega)
      refine .sl (row := setl row (j * esz) vals) (by simp [AH.set]) hid hc (by rw [hs]; simp; omega) hlo ?_ ?_
      · rw [hs, hs', ← hrow]
        rw [List.take_append, List.take_append]
        simp only [List.length_append, List.length_take, List.take_take, List.drop_take]
        rw [Nat.min_eq_left (show j * esz ≤ row.length by omega), Nat.min_eq_right (show j * esz ≤ len * esz by omega), Nat.min_eq_left (show j * esz ≤ len * esz by omega)]
        rw [List.take_of_length_le (l := vals) (by omega)]
      · rw [hs', List.any_append, List.any_append, any_take hu1, any_drop hu1, hu]; rfl
    · refine ⟨Nat.le_refl _, fun k hk hne => ?_, .inl rfl⟩
      simp only [AH.set]
      rw [if_neg (fun e => hne (by rw [e]))]

/-! ### bytes -/
def by8 (l : List UInt8) : List AV := l.map fun c => .i .u8 c.toNat
@[simp] theorem by8_length (l : List UInt8) : (by8 l).length = l.length := by simp [by8]
@[simp] theorem by8_append (l m : List UInt8) : by8 (l ++ m) = by8 l ++ by8 m := by simp [by8]
@[simp] theorem by8_nil : by8 [] = [] := rfl
@[simp] theorem by8_cons (c : UInt8) (l : List UInt8) : by8 (c :: l) = .i .u8 c.toNat :: by8 l := rfl
theorem by8_known (l : List UInt8) : (by8 l).any AV.isUn = false := by
  rw [List.any_eq_false]
  intro x hx
  obtain ⟨c, _, rfl⟩ := List.mem_map.1 hx
  simp [AV.isUn]
theorem by8_take (l : List UInt8) (n : Nat) : (by8 l).take n = by8 (l.take n) := by simp [by8, List.map_take]
theorem by8_drop (l : List UInt8) (n : Nat) : (by8 l).drop n = by8 (l.drop n) := by simp [by8, List.map_drop]
theorem by8_get (l : List UInt8) (j : Nat) (hj : j < l.length) : (by8 l)[j]? = some (.i .u8 (l[j]).toNat) := by simp [by8, hj]
theorem bytesOf_by8 (l : List UInt8) : bytesOf (by8 l) = some l := by
  induction l with
  | nil => rfl
  | cons c l ih => simp only [by8_cons, bytesOf, ih]; simp
theorem Sli.str {h : AH} {v : AV} {l : List UInt8} (s : Sli 1 h v (by8 l)) : ∃ n, ashow 1 v h = some (n, by8 l) := ⟨_, s.show (by decide)⟩
/-- one byte, as it is stored -/
theorem wrap8 (n : Int) : AV.i .u8 (IntKind.u8.wrap n) = .i .u8 ((UInt8.ofInt n).toNat : Int) := by
  congr 1
  simp [IntKind.wrap, IntKind.bits, IntKind.signed, UInt8.ofInt]
  omega
end Go.Proofs.Ytdcknhimmdmgoaa.Ab
