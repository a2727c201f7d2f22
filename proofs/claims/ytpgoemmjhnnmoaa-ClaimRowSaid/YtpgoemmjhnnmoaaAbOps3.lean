/- The operations, part three: conversions, loads, stores, addresses, parts, cuts. -/
import Derived.Test.YtpgoemmjhnnmoaaAbOps2
namespace Go.Proofs.Ytpgoemmjhnnmoaa.Ab
open Go
set_option linter.unusedVariables false
section
variable {P : Program} {lk : Lk} {ρ : Rho} {h : AH} {w : World}

/-! ### loads and stores -/
theorem isUn_iff {v : AV} : v.isUn = true ↔ v = .un := by cases v <;> simp [AV.isUn]
theorem rd_sound (r : Rel lk ρ h w) {id off b t : Nat} {v : AV} (hi : ρ id = some (b, t)) (hv : h.rd id off = some v) : ∃ x, w.cell? ⟨b, off, none⟩ = some x ∧ VC lk ρ v x := by
  unfold AH.rd at hv
  split at hv
  · rename_i cs ro hb
    split at hv
    · rename_i u hu
      split at hv
      · cases hv
      · rename_i hn
        cases hv
        obtain ⟨cur, ty, fz, h1, h2, h3, h4, h5⟩ := r.row hi hb
        obtain ⟨y, h6, h7⟩ := h5 off v hu
        exact ⟨y, by simp [World.cell?, h1, h6], h7.resolve_left fun e => hn (isUn_iff.2 e)⟩
    · cases hv
  · cases hv
theorem row_F2 {cs : List AV} {cur : List Value} (hc : ∀ (j : Nat) (x : AV), cs[j]? = some x → ∃ y, cur[j]? = some y ∧ VU lk ρ x y) {off n : Nat} (hl : off + n ≤ cs.length) (hu : ((cs.drop off).take n).any AV.isUn = false) :
    F2 (VC lk ρ) ((cs.drop off).take n) ((cur.drop off).take n) := by
  have hlt : off + n ≤ cur.length := by
    rcases Nat.eq_zero_or_pos n with h0 | h0
    · subst h0
      rcases Nat.eq_zero_or_pos off with h1 | h1
      · omega
      · obtain ⟨y, hy, _⟩ := hc (off - 1) _ (List.getElem?_eq_getElem (by omega))
        have := (List.getElem?_eq_some_iff.1 hy).1
        omega
    · obtain ⟨y, hy, _⟩ := hc (off + n - 1) _ (List.getElem?_eq_getElem (by omega))
      have := (List.getElem?_eq_some_iff.1 hy).1
      omega
  refine F2.of_get (by simp; omega) fun j x y hx hy => ?_
  have hmem : x ∈ (cs.drop off).take n := List.mem_of_getElem? hx
  have hnu : x ≠ .un := fun e => by
    have := List.any_eq_false.1 hu x hmem
    exact this (isUn_iff.2 e)
  rw [List.getElem?_take] at hx hy
  split at hx
  · rename_i hj
    rw [if_pos hj] at hy
    rw [List.getElem?_drop] at hx hy
    obtain ⟨z, hz, hr⟩ := hc _ _ hx
    rw [hz] at hy
    cases hy
    exact hr.resolve_left hnu
  · cases hx
theorem rdn_sound (r : Rel lk ρ h w) {id off n b t : Nat} {cs : List AV} (hi : ρ id = some (b, t)) (hv : h.rdn id off n = some cs) :
    ∃ xs : List Value, (loadCells ⟨b, off, none⟩ n).run P w = .ok xs.toArray w ∧ F2 (VC lk ρ) cs xs ∧ xs.length = n ∧ off + n ≤ t := by
  unfold AH.rdn at hv
  split at hv
  · rename_i cs' ro hb
    split at hv
    · rename_i hl
      cases hv
      obtain ⟨cur, ty, fz, h1, h2, h3, h4, h5⟩ := r.row hi hb
      have hf := row_F2 (cur := cur.toList) (fun j x hx => by simpa using h5 j x hx) hl.1 hl.2
      refine ⟨_, run_loadRow h1 n (by omega), hf, ?_, by omega⟩
      have := hf.length
      rw [← this]
      simp
      omega
    · cases hv
  · cases hv
def ldK (P : Program) (t : TypeId) (sz : Option Nat) : Bool :=
  match aggT P t, sz with
  | some true, some n => decide (szT P t = some n)
  | some false, none => true
  | _, _ => false
theorem aload_sound (r : Rel lk ρ h w) {t : TypeId} {sz : Option Nat} {u v : AV} {a : Value} {h' : AH} (ht : ldK P t sz = true) (hu : VE lk ρ u a) (hr : aload sz u h = some (v, h')) :
    ∃ x, (Instr.loadAt t a).run P w = .ok x w ∧ VE lk ρ v x ∧ h' = h := by
  unfold aload at hr
  split at hr
  · rename_i id off
    obtain ⟨b, t', hi, rfl⟩ := hu.ptr
    cases hv : h.rd id off with
    | none => simp [hv] at hr
    | some z =>
      simp [hv] at hr
      obtain ⟨rfl, rfl⟩ := hr
      obtain ⟨x, hx, hvx⟩ := rd_sound r hi hv
      refine ⟨x, ?_, hvx.e, rfl⟩
      have ha : aggT P t = some false := by
        unfold ldK at ht
        split at ht <;> simp_all
      simp [Instr.loadAt, Instr.sureAddr, loadVar, run_aggT ha, hx]
  · rename_i id off n
    obtain ⟨b, t', hi, rfl⟩ := hu.ptr
    cases hv : h.rdn id off n with
    | none => simp [hv] at hr
    | some z =>
      simp [hv] at hr
      obtain ⟨rfl, rfl⟩ := hr
      obtain ⟨xs, hx, hvx, _, _⟩ := rdn_sound (P := P) r hi hv
      refine ⟨.agg xs.toArray, ?_, (VR.agg hvx).e, rfl⟩
      have ha : aggT P t = some true ∧ szT P t = some n := by
        unfold ldK at ht
        split at ht <;> simp_all
      simp [Instr.loadAt, Instr.sureAddr, loadVar, run_aggT ha.1, run_szT ha.2, hx]
  · cases hr
theorem wr_sound (r : Rel lk ρ h w) {id off b t : Nat} {vs : List AV} {xs : List Value} {h' : AH} (hi : ρ id = some (b, t)) (hv : h.wr id off vs = some h') (hx : F2 (VC lk ρ) vs xs) :
    (storeCells ⟨b, off, none⟩ xs).run P w = .ok () (w.setCells b off xs) ∧ Rel lk ρ h' (w.setCells b off xs) ∧ Stp ρ h w ρ h' (w.setCells b off xs) := by
  unfold AH.wr at hv
  split at hv
  · rename_i cs hb
    split at hv
    · rename_i hl
      cases hv
      obtain ⟨cur, ty, fz, h1, h2, h3, h4, h5⟩ := r.row hi hb
      have hlen := hx.length
      refine ⟨run_storeRow xs h1 (by omega) (by subst h2; exact h4 rfl) hx.one, r.store hi hb hx⟩
    · cases hv
  · cases hv
theorem astore_sound (r : Rel lk ρ h w) {t : TypeId} {sz : Nat} {u v res : AV} {a x : Value} {h' : AH} (ht : szT P t = some sz) (hu : VE lk ρ u a) (hv : VE lk ρ v x) (hr : astore sz u v h = some (res, h')) :
    ∃ w', (Instr.storeAt t a x).run P w = .ok () w' ∧ res = .tup [] ∧ Rel lk ρ h' w' ∧ Stp ρ h w ρ h' w' := by
  unfold astore at hr
  split at hr
  · rename_i id off cs hc
    obtain ⟨b, t', hi, rfl⟩ := hu.ptr
    obtain ⟨_, hcl⟩ := hv.cl hc
    split at hr
    · rename_i hl
      cases hw : h.wr id off cs with
      | none => simp [hw] at hr
      | some h2 =>
        simp [hw] at hr
        obtain ⟨rfl, rfl⟩ := hr
        obtain ⟨h1, h2, h3⟩ := wr_sound (P := P) r hi hw hcl
        refine ⟨_, ?_, rfl, h2, h3⟩
        have hs : x.cells.size = sz := by have := hcl.length; simp at this; omega
        simp [Instr.storeAt, Instr.sureAddr, storeVar, run_szT ht, hs, h1]
    · cases hr
  · cases hr

/-! ### addresses -/
def faK (P : Program) (t : TypeId) (f off : Nat) : Bool :=
  match P.underlying t with
  | some (.struct fs) =>
    match fs[f]? with
    | some x => decide (x.offset = off) && (match szT P x.type with | some (_ + 1) => true | _ => false)
    | none => false
  | _ => false
theorem fa_sound {t : TypeId} {f off id o : Nat} {a : Value} (ht : faK P t f off = true) (hu : VE lk ρ (.ptr id o) a) :
    ∃ x, (Instr.fieldAt t a f).run P w = .ok x w ∧ VE lk ρ (.ptr id (o + off)) x := by
  obtain ⟨b, t', hi, rfl⟩ := hu.ptr
  unfold faK at ht
  cases hd : P.underlying t with
  | none => simp [hd] at ht
  | some d =>
    cases d with
    | struct fs =>
      simp only [hd] at ht
      cases hf : fs[f]? with
      | none => simp [hf] at ht
      | some x =>
        simp only [hf, Bool.and_eq_true, decide_eq_true_eq] at ht
        obtain ⟨h1, h2⟩ := ht
        cases hs : szT P x.type with
        | none => simp [hs] at h2
        | some n =>
          cases n with
          | zero => simp [hs] at h2
          | succ n =>
            refine ⟨_, ?_, (VC.ptr hi).e⟩
            simp [Instr.fieldAt, run_underlying hd, hf, Instr.sureAddr, fieldPlace, run_szT hs, Addr.add_lit, h1]
    | _ => simp [hd] at ht
def elK (P : Program) (t : TypeId) (esz : Nat) : Bool :=
  match P.underlying t with
  | some (.slice e) => decide (szT P e = some esz)
  | _ => false
def arK (P : Program) (t : TypeId) (n esz : Nat) : Bool :=
  match P.underlying t with
  | some (.array m e) => decide (m = n) && decide (szT P e = some esz)
  | _ => false
theorem elK_spec {t : TypeId} {esz : Nat} (h : elK P t esz = true) : ∃ e, P.underlying t = some (.slice e) ∧ szT P e = some esz := by
  unfold elK at h
  split at h
  · exact ⟨_, by assumption, of_decide_eq_true h⟩
  · cases h
theorem arK_spec {t : TypeId} {n esz : Nat} (h : arK P t n esz = true) : ∃ e, P.underlying t = some (.array n e) ∧ szT P e = some esz := by
  unfold arK at h
  split at h
  · simp only [Bool.and_eq_true, decide_eq_true_eq] at h
    obtain ⟨rfl, h2⟩ := h
    exact ⟨_, by assumption, h2⟩
  · cases h
theorem aidx_sound {t : TypeId} {esz : Nat} {u i v : AV} {a c : Value} (ht : elK P t esz = true) (hu : VE lk ρ u a) (hi : VE lk ρ i c) (hr : aidx esz u i = some v) :
    ∃ x, (Instr.indexAt t a c).run P w = .ok x w ∧ VE lk ρ v x := by
  obtain ⟨e, hd, hs⟩ := elK_spec ht
  unfold aidx at hr
  split at hr
  · split at hr
    · rename_i hb
      cases hr
      obtain rfl := hi.i
      obtain ⟨b, t', o, c', hid, h0, h1, h2, h3, h4, rfl⟩ := hu.sl
      have ho : o = _ := h3.resolve_right (by omega)
      subst ho
      refine ⟨_, ?_, (VC.ptr hid).e⟩
      simp [Instr.indexAt, asIntOf, run_underlying hd, hb, run_szT hs, Addr.add_lit]
    · cases hr
  · cases hr
theorem aidxa_sound {t : TypeId} {n esz : Nat} {u i v : AV} {a c : Value} (ht : arK P t n esz = true) (hu : VE lk ρ u a) (hi : VE lk ρ i c) (hr : aidxa n esz u i = some v) :
    ∃ x, (Instr.indexAt t a c).run P w = .ok x w ∧ VE lk ρ v x := by
  obtain ⟨e, hd, hs⟩ := arK_spec ht
  unfold aidxa at hr
  split at hr
  · split at hr
    · rename_i hb
      cases hr
      obtain rfl := hi.i
      obtain ⟨b, t', hid, rfl⟩ := hu.ptr
      refine ⟨_, ?_, (VC.ptr hid).e⟩
      simp [Instr.indexAt, asIntOf, run_underlying hd, hb, run_szT hs, Addr.add_lit, Instr.sureAddr]
    · cases hr
  · cases hr

/-! ### parts of values -/
theorem F2.getA {α β : Type} {R : α → β → Prop} {xs : List α} {ys : Array β} (h : F2 R xs ys.toList) {j : Nat} {x : α} (hx : xs[j]? = some x) : ∃ y, ys[j]? = some y ∧ R x y := by
  obtain ⟨y, h1, h2⟩ := h.get hx
  exact ⟨y, by simpa using h1, h2⟩
theorem cut_toList (xs : Array Value) (o n : Nat) : (xs.extract o (o + n)).toList = (xs.toList.drop o).take n := by
  simp [Array.toList_extract]
theorem part_sound {t : TypeId} {sz : Option Nat} {off : Nat} {cs : List AV} {xs : Array Value} {v : AV} (ht : ldK P t sz = true) (hf : F2 (VC lk ρ) cs xs.toList) (hr : afield off sz (.agg cs) = some v) :
    ∃ x, (part t xs off).run P w = .ok x w ∧ VE lk ρ v x := by
  unfold afield at hr
  split at hr
  · rename_i heq
    cases heq
    have ha : aggT P t = some false := by
      unfold ldK at ht
      split at ht <;> simp_all
    obtain ⟨x, h1, h2⟩ := hf.getA hr
    exact ⟨x, by simp [part, run_aggT ha, h1], h2.e⟩
  · rename_i heq
    cases heq
    split at hr
    · cases hr
      rename_i n _
      have ha : aggT P t = some true ∧ szT P t = some n := by
        unfold ldK at ht
        split at ht <;> simp_all
      exact ⟨.agg (xs.extract off (off + n)), by simp only [part, Sem.run_bind, run_aggT ha.1, Result.andThen_ok, if_true, run_szT ha.2, Sem.run_pure], (VR.agg (by rw [cut_toList]; exact (hf.drop _).take _)).e⟩
    · cases hr
  · cases hr
def fldK (P : Program) (t : TypeId) (f off : Nat) (sz : Option Nat) : Bool :=
  match P.underlying t with
  | some (.struct fs) =>
    match fs[f]? with
    | some x => decide (x.offset = off) && ldK P x.type sz
    | none => false
  | _ => false
theorem fld_sound {t : TypeId} {f off : Nat} {sz : Option Nat} {u v : AV} {a : Value} (ht : fldK P t f off sz = true) (hu : VE lk ρ u a) (hr : afield off sz u = some v) :
    ∃ x, (Instr.field t a f).run P w = .ok x w ∧ VE lk ρ v x := by
  unfold fldK at ht
  cases hd : P.underlying t with
  | none => simp [hd] at ht
  | some d =>
    cases d with
    | struct fs =>
      simp only [hd] at ht
      cases hf : fs[f]? with
      | none => simp [hf] at ht
      | some x =>
        simp only [hf, Bool.and_eq_true, decide_eq_true_eq] at ht
        obtain ⟨h1, h2⟩ := ht
        cases u with
        | agg cs =>
          obtain ⟨xs, hxs, rfl⟩ := hu.agg
          obtain ⟨z, h3, h4⟩ := part_sound (P := P) (w := w) h2 hxs hr
          exact ⟨z, by simp [Instr.field, run_underlying hd, hf, asAgg, h1, h3], h4⟩
        | _ => cases sz <;> simp [afield] at hr
    | _ => simp [hd] at ht
def ixK (P : Program) (t : TypeId) (n esz : Nat) (ag : Bool) : Bool :=
  match P.underlying t with
  | some (.array m e) => decide (m = n) && decide (szT P e = some esz) && ldK P e (if ag then some esz else none)
  | _ => false
theorem aidxv_sound {t : TypeId} {n esz : Nat} {ag : Bool} {u i v : AV} {a c : Value} (ht : ixK P t n esz ag = true)
    (hu : VE lk ρ u a) (hi : VE lk ρ i c) (hr : aidxv n esz ag u i = some v) : ∃ x, (Instr.index t a c).run P w = .ok x w ∧ VE lk ρ v x := by
  unfold ixK at ht
  cases hd : P.underlying t with
  | none => simp [hd] at ht
  | some d =>
    cases d with
    | array m e =>
      simp only [hd, Bool.and_eq_true, decide_eq_true_eq] at ht
      obtain ⟨⟨rfl, hs⟩, hl⟩ := ht
      unfold aidxv at hr
      split at hr
      · rename_i cs k j
        split at hr
        · rename_i hb
          obtain rfl := hi.i
          obtain ⟨xs, hxs, rfl⟩ := hu.agg
          have hp : afield (j.toNat * esz) (if ag then some esz else none) (.agg cs) = some v := by
            cases ag <;> simpa [afield] using hr
          obtain ⟨z, h3, h4⟩ := part_sound (P := P) (w := w) hl hxs hp
          exact ⟨z, by simp [Instr.index, asIntOf, run_underlying hd, hb, run_szT hs, h3], h4⟩
        · cases hr
      · cases hr
    | _ => simp [hd] at ht
theorem aidxs_sound {t : TypeId} {u i v : AV} {a c : Value} (ht : P.underlying t = some .string) (hu : VE lk ρ u a) (hi : VE lk ρ i c) (hr : aidxs u i = some v) :
    ∃ x, (Instr.index t a c).run P w = .ok x w ∧ VE lk ρ v x := by
  unfold aidxs at hr
  split at hr
  · rename_i l k j
    split at hr
    · rename_i hb
      obtain rfl := hi.i
      obtain ⟨y, hy, rfl⟩ := hu.s
      cases hc : l[j.toNat]? with
      | none => simp [hc] at hr
      | some c =>
        simp [hc] at hr
        subst hr
        have hlt := (List.getElem?_eq_some_iff.1 hc).1
        have hsz : j.toNat < y.size := by rw [← hy] at hlt; simpa using hlt
        have hget : y[j.toNat]? = some c := by
          rw [ByteArray.getElem?_lt' y _ hsz]
          have : y.data.toList[j.toNat]? = some c := by rw [hy]; exact hc
          rw [Array.getElem?_toList, Array.getElem?_eq_getElem (by simpa using hsz)] at this
          exact this
        exact ⟨.int .u8 c.toNat, by simp [Instr.index, asIntOf, run_underlying ht, hb, hget], (VC.i _ _).e⟩
    · cases hr
  · cases hr
theorem aext_sound {n : Nat} {u v : AV} {a : Value} (hu : VE lk ρ u a) (hr : aext n u = some v) : ∃ x, (Instr.extract a n).run P w = .ok x w ∧ VE lk ρ v x := by
  unfold aext at hr
  split at hr
  · obtain ⟨xs, hxs, rfl⟩ := hu.tup'
    obtain ⟨x, h1, h2⟩ := hxs.getA hr
    exact ⟨x, by simp [Instr.extract, h1], .of h2⟩
  · cases hr

/-! ### cuts -/
def VEO (lk : Lk) (ρ : Rho) (v : Option AV) (x : Option Value) : Prop := match v, x with | none, none => True | some v, some x => VE lk ρ v x | _, _ => False
theorem bnd_sound {v : Option AV} {x : Option Value} {d m n M : Nat} {code : BoundsCode} (hM : m ≤ M) (hv : VEO lk ρ v x) (hr : bnd v d m = some n) :
    (x = none ∧ n = d) ∨ ∃ y, x = some y ∧ (Instr.sliceBound y M code).run P w = .ok n w ∧ n ≤ m := by
  unfold bnd at hr
  split at hr
  · cases hr
    cases x with
    | none => exact .inl ⟨rfl, rfl⟩
    | some x => exact hv.elim
  · rename_i k j
    cases x with
    | none => exact hv.elim
    | some x =>
      obtain rfl := VE.i (show VE lk ρ (.i k j) x from hv)
      split at hr
      · rename_i hb
        cases hr
        refine .inr ⟨_, rfl, ?_, by omega⟩
        simp only [Instr.sliceBound, asIntOf, pure_bind]
        rw [if_pos (by omega)]
        rfl
      · cases hr
  · cases hr
/-- the bounds of a cut without a third one -/
theorem bounds_two {isS : Bool} {lo hi : Option AV} {lo' hi' : Option Value} {len cap c hh l : Nat} (hlo : VEO lk ρ lo lo') (hhi : VEO lk ρ hi hi') (hlc : len ≤ cap) (hc : cap ≤ c)
    (h2 : bnd hi len cap = some hh) (h3 : bnd lo 0 hh = some l) : (Instr.sliceBounds isS len c lo' hi' none).run P w = .ok (l, hh, c) w ∧ l ≤ hh ∧ hh ≤ cap := by
  have hl : l ≤ hh := by
    unfold bnd at h3
    split at h3
    · cases h3; omega
    · split at h3
      · cases h3; omega
      · cases h3
    · cases h3
  have hh' : hh ≤ cap := by
    unfold bnd at h2
    split at h2
    · cases h2; omega
    · split at h2
      · cases h2; omega
      · cases h2
    · cases h2
  refine ⟨?_, hl, hh'⟩
  rcases bnd_sound (P := P) (w := w) (M := c) (code := if isS then .sliceAcap else .sliceAlen) hc hhi h2 with ⟨rfl, e1⟩ | ⟨y, rfl, e1, _⟩
  · rcases bnd_sound (P := P) (w := w) (M := hh) (code := .sliceB) (Nat.le_refl _) hlo h3 with ⟨rfl, e2⟩ | ⟨z, rfl, e2, _⟩
    · subst e1 e2; simp [Instr.sliceBounds]
    · subst e1; simp [Instr.sliceBounds, e2]
  · rcases bnd_sound (P := P) (w := w) (M := hh) (code := .sliceB) (Nat.le_refl _) hlo h3 with ⟨rfl, e2⟩ | ⟨z, rfl, e2, _⟩
    · subst e2; simp [Instr.sliceBounds, e1]
    · simp [Instr.sliceBounds, e1, e2]
theorem bounds_three {isS : Bool} {lo hi mx : Option AV} {lo' : Option Value} {hv mv : Value} {len cap c m hh l : Nat} (hlo : VEO lk ρ lo lo') (hhi : VEO lk ρ hi (some hv)) (hmx : VEO lk ρ mx (some mv)) (hc : cap ≤ c)
    (h1 : bnd mx cap cap = some m) (h2 : bnd hi len m = some hh) (h3 : bnd lo 0 hh = some l) : (Instr.sliceBounds isS len c lo' (some hv) (some mv)).run P w = .ok (l, hh, m) w ∧ l ≤ hh ∧ hh ≤ m ∧ m ≤ cap := by
  rcases bnd_sound (P := P) (w := w) (M := c) (code := if isS then .slice3Acap else .slice3Alen) hc hmx h1 with ⟨e, _⟩ | ⟨y, e, e1, g1⟩
  · cases e
  · cases e
    rcases bnd_sound (P := P) (w := w) (M := m) (code := .slice3B) (Nat.le_refl _) hhi h2 with ⟨e, _⟩ | ⟨y, e, e2, g2⟩
    · cases e
    · cases e
      have hl : l ≤ hh := by
        unfold bnd at h3
        split at h3
        · cases h3; omega
        · split at h3
          · cases h3; omega
          · cases h3
        · cases h3
      refine ⟨?_, hl, g2, g1⟩
      rcases bnd_sound (P := P) (w := w) (M := hh) (code := .slice3C) (Nat.le_refl _) hlo h3 with ⟨rfl, e3⟩ | ⟨z, rfl, e3, _⟩
      · subst e3; simp [Instr.sliceBounds, e1, e2]
      · simp [Instr.sliceBounds, e1, e2, e3]
theorem VEO.none_left {x : Option Value} (h : VEO lk ρ none x) : x = none := by cases x with | none => rfl | some => exact h.elim
theorem VEO.some_left {v : AV} {x : Option Value} (h : VEO lk ρ (some v) x) : ∃ y, x = some y ∧ VE lk ρ v y := by cases x with | none => exact h.elim | some y => exact ⟨y, rfl, h⟩
theorem aslice_sound {t : TypeId} {esz : Nat} {u v : AV} {a : Value} {lo hi mx : Option AV} {lo' hi' mx' : Option Value} (ht : elK P t esz = true) (hu : VE lk ρ u a) (hlo : VEO lk ρ lo lo') (hhi : VEO lk ρ hi hi') (hmx : VEO lk ρ mx mx')
    (h3 : mx'.isSome → hi'.isSome) (hr : aslice esz u lo hi mx = some v) : ∃ x, (Instr.sliceAt t a lo' hi' mx').run P w = .ok x w ∧ VE lk ρ v x := by
  obtain ⟨e, hd, hs⟩ := elK_spec ht
  have hsl : ∀ q, (Instr.sliceAt t q lo' hi' mx').run P w = (Instr.slice t q lo' hi' mx').run P w := fun q => by
    simp [Instr.sliceAt, run_underlying hd]
  rw [hsl]
  unfold aslice at hr
  split at hr
  · obtain rfl := hu.nils
    split at hr
    · rename_i m hh l e1 e2 e3
      cases hr
      refine ⟨.slice none 0 0, ?_, VC.nils.e⟩
      cases mx with
      | none =>
        obtain rfl := hmx.none_left
        obtain ⟨g, g1, g2⟩ := bounds_two (P := P) (w := w) (isS := true) (c := 0) hlo hhi (Nat.le_refl 0) (Nat.le_refl 0) e2 (show bnd lo 0 hh = some l by
          have : hh = 0 := by
            unfold bnd at e2
            split at e2
            · cases e2; rfl
            · split at e2
              · cases e2; omega
              · cases e2
            · cases e2
          rw [this]; exact e3)
        have : hh = 0 := by omega
        have : l = 0 := by omega
        subst hh; subst l
        simp [Instr.slice, run_underlying hd, g, run_szT hs]
      | some mv =>
        obtain ⟨my, rfl, hmy⟩ := hmx.some_left
        obtain ⟨hy, rfl⟩ := Option.isSome_iff_exists.1 (h3 rfl)
        have hm0 : m = 0 := by
          unfold bnd at e1
          split at e1
          · cases e1; rfl
          · split at e1
            · cases e1; omega
            · cases e1
          · cases e1
        subst hm0
        have hh0 : hh = 0 := by
          unfold bnd at e2
          split at e2
          · cases e2; rfl
          · split at e2
            · cases e2; omega
            · cases e2
          · cases e2
        subst hh0
        obtain ⟨g, g1, _⟩ := bounds_three (P := P) (w := w) (isS := true) (c := 0) hlo hhi hmx (Nat.le_refl 0) e1 e2 e3
        have : l = 0 := by omega
        subst l
        simp [Instr.slice, run_underlying hd, g, run_szT hs]
    · cases hr
  · obtain ⟨ad, rfl⟩ := hu.es
    split at hr
    · rename_i m hh l e1 e2 e3
      cases hr
      refine ⟨.slice (some ad) 0 0, ?_, (VC.es _).e⟩
      cases mx with
      | none =>
        obtain rfl := hmx.none_left
        obtain ⟨g, g1, g2⟩ := bounds_two (P := P) (w := w) (isS := true) (c := 0) hlo hhi (Nat.le_refl 0) (Nat.le_refl 0) e2 (show bnd lo 0 hh = some l by
          have : hh = 0 := by
            unfold bnd at e2
            split at e2
            · cases e2; rfl
            · split at e2
              · cases e2; omega
              · cases e2
            · cases e2
          rw [this]; exact e3)
        have : hh = 0 := by omega
        have : l = 0 := by omega
        subst hh; subst l
        simp [Instr.slice, run_underlying hd, g, run_szT hs]
      | some mv =>
        obtain ⟨my, rfl, hmy⟩ := hmx.some_left
        obtain ⟨hy, rfl⟩ := Option.isSome_iff_exists.1 (h3 rfl)
        have hm0 : m = 0 := by
          unfold bnd at e1
          split at e1
          · cases e1; rfl
          · split at e1
            · cases e1; omega
            · cases e1
          · cases e1
        subst hm0
        have hh0 : hh = 0 := by
          unfold bnd at e2
          split at e2
          · cases e2; rfl
          · split at e2
            · cases e2; omega
            · cases e2
          · cases e2
        subst hh0
        obtain ⟨g, g1, _⟩ := bounds_three (P := P) (w := w) (isS := true) (c := 0) hlo hhi hmx (Nat.le_refl 0) e1 e2 e3
        have : l = 0 := by omega
        subst l
        simp [Instr.slice, run_underlying hd, g, run_szT hs]
    · cases hr
  · rename_i id off len cap lo2
    obtain ⟨b, t', o, c, hid, g0, g1, g2, g3, g4, rfl⟩ := hu.sl
    split at hr
    · rename_i hlo2
      cases mx with
      | none =>
        obtain rfl := hmx.none_left
        simp only [bnd] at hr
        split at hr
        · cases hr
        · rename_i hh e2
          split at hr
          · cases hr
          · rename_i l e3
            simp only [Option.isSome_none, Bool.false_eq_true, if_false, Option.some.injEq] at hr
            subst hr
            obtain ⟨g, gl, gh⟩ := bounds_two (P := P) (w := w) (isS := true) (c := c) hlo hhi g0 g1 e2 e3
            refine ⟨_, by simp [Instr.slice, run_underlying hd, g, run_szT hs]; rfl, ?_⟩
            by_cases hcl : c = l
            · rw [if_pos hcl]
              exact (VC.sl (o := o) hid (by omega) (by omega) (fun h => by have := g2 h; omega) (.inr (by omega)) (fun h => by have := g4 h; have : c - l = 0 := (by omega); rw [this]; omega)).e
            · rw [if_neg hcl]
              simp only [Addr.add_lit]
              have ho : o = off := g3.resolve_right (by omega)
              subst ho
              refine (VC.sl hid (by omega) (by omega) (fun h => by have := g2 h; omega) (.inl rfl) (fun h => ?_)).e
              have h4 := g4 h
              have : lo2 = esz := hlo2.resolve_left h
              subst this
              rw [Nat.sub_mul]
              have : l * lo2 ≤ c * lo2 := Nat.mul_le_mul_right _ (by omega)
              omega
      | some mv =>
        obtain ⟨my, rfl, hmy⟩ := hmx.some_left
        obtain ⟨hy, rfl⟩ := Option.isSome_iff_exists.1 (h3 rfl)
        split at hr
        · cases hr
        · rename_i m e1
          split at hr
          · cases hr
          · rename_i hh e2
            split at hr
            · cases hr
            · rename_i l e3
              simp only [Option.isSome_some, if_true, Option.some.injEq] at hr
              subst hr
              obtain ⟨g, gl, gh, gm⟩ := bounds_three (P := P) (w := w) (isS := true) (c := c) hlo hhi hmx g1 e1 e2 e3
              refine ⟨_, by simp [Instr.slice, run_underlying hd, g, run_szT hs]; rfl, ?_⟩
              by_cases hcl : m = l
              · rw [if_pos hcl]
                exact (VC.sl (o := o) hid (by omega) (by omega) (fun _ => rfl) (.inr (by omega)) (fun h => absurd rfl h)).e
              · rw [if_neg hcl]
                simp only [Addr.add_lit]
                have ho : o = off := g3.resolve_right (by omega)
                subst ho
                exact (VC.sl hid (by omega) (by omega) (fun _ => rfl) (.inl rfl) (fun h => absurd rfl h)).e
    · cases hr
  · cases hr
theorem aarrcut_sound {t : TypeId} {n esz : Nat} {u v : AV} {a : Value} {lo hi : Option AV} {lo' hi' : Option Value} (ht : arK P t n esz = true) (hu : VE lk ρ u a) (hlo : VEO lk ρ lo lo') (hhi : VEO lk ρ hi hi')
    (hr : aarrcut n esz u lo hi = some v) : ∃ x, (Instr.sliceAt t a lo' hi' none).run P w = .ok x w ∧ VE lk ρ v x := by
  obtain ⟨e, hd, hs⟩ := arK_spec ht
  unfold aarrcut at hr
  split at hr
  · rename_i id off
    obtain ⟨b, t', hid, rfl⟩ := hu.ptr
    split at hr
    · cases hr
    · rename_i hh e2
      split at hr
      · cases hr
      · rename_i l e3
        simp only [Option.some.injEq] at hr
        subst hr
        obtain ⟨g, gl, gh⟩ := bounds_two (P := P) (w := w) (isS := false) (c := n) hlo hhi (Nat.le_refl n) (Nat.le_refl n) e2 e3
        refine ⟨_, by simp [Instr.sliceAt, run_underlying hd, g, run_szT hs, Instr.sureAddr]; rfl, ?_⟩
        by_cases hcl : n = l
        · rw [if_pos hcl]
          exact (VC.sl (o := off) hid (by omega) (by omega) (fun _ => rfl) (.inr (by omega)) (fun h => absurd rfl h)).e
        · rw [if_neg hcl]
          simp only [Addr.add_lit]
          exact (VC.sl hid (by omega) (by omega) (fun _ => rfl) (.inl rfl) (fun h => absurd rfl h)).e
  · cases hr
theorem astrcut_sound {t : TypeId} {u v : AV} {a : Value} {lo hi : Option AV} {lo' hi' : Option Value} (ht : P.underlying t = some .string) (hu : VE lk ρ u a) (hlo : VEO lk ρ lo lo') (hhi : VEO lk ρ hi hi')
    (hr : astrcut u lo hi = some v) : ∃ x, (Instr.sliceAt t a lo' hi' none).run P w = .ok x w ∧ VE lk ρ v x := by
  unfold astrcut at hr
  split at hr
  · rename_i l
    obtain ⟨y, hy, rfl⟩ := hu.s
    have hsz : l.length = y.size := by rw [← hy]; simp
    split at hr
    · cases hr
    · rename_i hh e2
      split at hr
      · cases hr
      · rename_i q e3
        simp only [Option.some.injEq] at hr
        subst hr
        rw [hsz] at e2
        obtain ⟨g, gl, gh⟩ := bounds_two (P := P) (w := w) (isS := false) (c := y.size) hlo hhi (Nat.le_refl _) (Nat.le_refl _) e2 e3
        refine ⟨.string (y.extract q hh), by simp [Instr.sliceAt, Instr.slice, run_underlying ht, g], (VC.s _ _ ?_).e⟩
        rw [← hy]
        have : y = ⟨y.data.toList.toArray⟩ := by cases y; simp
        rw [this, ByteArray.extract_mk]
        simp [List.drop_take]
  · cases hr
end
end Go.Proofs.Ytpgoemmjhnnmoaa.Ab
