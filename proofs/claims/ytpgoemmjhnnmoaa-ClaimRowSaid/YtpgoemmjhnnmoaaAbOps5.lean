/- The operations, part five: literals, make, copy, clear, lengths, conversions. -/
import Derived.Test.YtpgoemmjhnnmoaaAbOps4
import Derived.Laws.MakeOwn
namespace Go.Proofs.Ytpgoemmjhnnmoaa.Ab
open Go
set_option linter.unusedVariables false
section
variable {P : Program} {lk : Lk} {ρ : Rho} {h : AH} {w : World}

theorem F2.setl {cs vs : List AV} {xs : List Value} (hv : F2 (VC lk ρ) vs xs) : ∀ {o : Nat} {cur : Array Value}, F2 (VC lk ρ) cs cur.toList → F2 (VC lk ρ) (setl cs o vs) (setA cur o xs).toList := by
  induction vs generalizing cs xs with
  | nil => cases xs with | nil => exact fun h => h | cons => exact hv.elim
  | cons v vs ih =>
    cases xs with
    | nil => exact hv.elim
    | cons x xs =>
      intro o cur hc
      exact ih hv.2 (by simpa using hc.set o hv.1)
theorem foldl_setA (off : Nat) : ∀ (l : List Value) (k : Nat) (cells : Array Value), (l.zipIdx k).foldl (fun cs (p : Value × Nat) => cs.setIfInBounds (off + p.2) p.1) cells = setA cells (off + k) l
  | [], _, _ => rfl
  | v :: r, k, cells => by
    simp only [List.zipIdx_cons, List.foldl_cons, setA]
    rw [foldl_setA off r (k + 1)]
    rfl
theorem foldl_setA' (off : Nat) (xs cells : Array Value) : xs.zipIdx.foldl (fun cs (p : Value × Nat) => cs.setIfInBounds (off + p.2) p.1) cells = setA cells off xs.toList := by
  have := foldl_setA off xs.toList 0 cells
  rw [← Array.foldl_toList, Array.toList_zipIdx]
  simpa using this

/-- the parts of a literal -/
def partK (lk : Lk) (place : Nat → Option (Nat × Nat)) (p : Nat × Operand) (q : Nat × Nat × AX) : Bool := decide (place p.1 = some (q.1, q.2.1)) && chkX lk p.2 q.2.2
theorem fills_sound {nt : Nat} {e : Env} {a : Act} (er : ER lk ρ nt e a) {place : Nat → Option (Nat × Nat)} : ∀ {ps : List (Nat × Operand)} {qs : List (Nat × Nat × AX)} {z cs : List AV} {cells : Array Value},
    all2 (partK lk place) ps qs = true → F2 (VC lk ρ) z cells.toList → fills e z qs = some cs → ∃ cells', Instr.fill place cells (ps.map fun p => (p.1, a.eval p.2)) = some cells' ∧ F2 (VC lk ρ) cs cells'.toList
  | [], [], z, cs, cells, _, hz, hr => by simp [fills] at hr; subst hr; exact ⟨cells, rfl, hz⟩
  | p :: ps, q :: qs, z, cs, cells, hc, hz, hr => by
    simp only [all2, partK, Bool.and_eq_true, decide_eq_true_eq] at hc
    obtain ⟨⟨h1, h2⟩, h3⟩ := hc
    obtain ⟨o, n, x⟩ := q
    simp only [fills] at hr
    split at hr
    · rename_i c hcl
      split at hr
      · rename_i hl
        obtain ⟨_, hv⟩ := (chkX_sound h2 er).cl hcl
        have hvl := hv.length
        have hzl := hz.length
        have e1 : (a.eval p.2).cells.size = n := by simp at hvl; omega
        have e2 : ¬ o + (a.eval p.2).cells.size > cells.size := by simp at hzl; omega
        obtain ⟨cells', h4, h5⟩ := fills_sound er h3 (hv.setl (o := o) hz) hr
        refine ⟨cells', ?_, h5⟩
        simp only [List.map_cons, Instr.fill, h1]
        rw [if_neg (by simp [e1]; omega)]
        have := foldl_setA' o (a.eval p.2).cells cells
        rw [show (Array.foldl (fun cs (x : Value × Nat) => match x with | (c, j) => cs.setIfInBounds (o + j) c) cells (a.eval p.2).cells.zipIdx) = setA cells o (a.eval p.2).cells.toList from this]
        exact h4
      · cases hr
    · cases hr
  | [], _ :: _, _, _, _, hc, _, _ => by simp [all2] at hc
  | _ :: _, [], _, _, _, hc, _, _ => by simp [all2] at hc

def buildK (P : Program) (lk : Lk) (t : TypeId) (ps : Array (Nat × Operand)) (z : List AV) (qs : List (Nat × Nat × AX)) : Bool :=
  match P.info? t with
  | some it =>
    match it.zero with
    | some zv =>
      chkZ zv z &&
      (match P.underlying t with
       | some (.array _ e) => (match P.info? e with | some ie => all2 (partK lk fun i => some (i * ie.size, ie.size)) ps.toList qs | none => false)
       | some (.struct fields) => (match fields.toList.mapM (fun f => (P.info? f.type).map fun i => (f.offset, i.size)) with | some places => all2 (partK lk fun i => places.toArray[i]?) ps.toList qs | none => false)
       | _ => false)
    | none => false
  | none => false
theorem build_sound {nt : Nat} {e : Env} {a : Act} (er : ER lk ρ nt e a) {t : TypeId} {ps : Array (Nat × Operand)} {z cs : List AV} {qs : List (Nat × Nat × AX)} (hc : buildK P lk t ps z qs = true) (hr : fills e z qs = some cs) :
    ∃ x, (Instr.build t (ps.map fun (i, x) => (i, a.eval x))).run P w = .ok (.agg x) w ∧ F2 (VC lk ρ) cs x.toList := by
  unfold buildK at hc
  cases hi : P.info? t with
  | none => simp [hi] at hc
  | some it =>
    cases hz : it.zero with
    | none => simp [hi, hz] at hc
    | some zv =>
      simp only [hi, hz, Bool.and_eq_true] at hc
      obtain ⟨h1, h2⟩ := hc
      have hz0 : F2 (VC lk ρ) z zv.cells.toList := all2_sound (fun _ _ => chkV_sound) h1
      cases hu : P.underlying t with
      | none => simp [hu] at h2
      | some d =>
        cases d with
        | array n el =>
          simp only [hu] at h2
          cases hie : P.info? el with
          | none => simp [hie] at h2
          | some ie =>
            simp only [hie] at h2
            obtain ⟨cells', h4, h5⟩ := fills_sound er h2 hz0 hr
            exact ⟨cells', run_build w t _ _ (by simp only [Program.built, hi, hu, hz, hie]; simpa using h4), h5⟩
        | struct fields =>
          simp only [hu] at h2
          cases hp : fields.toList.mapM (fun f => (P.info? f.type).map fun i => (f.offset, i.size)) with
          | none => simp [hp] at h2
          | some places =>
            simp only [hp] at h2
            obtain ⟨cells', h4, h5⟩ := fills_sound er h2 hz0 hr
            exact ⟨cells', run_build w t _ _ (by simp only [Program.built, hi, hu, hz, hp]; simpa using h4), h5⟩
        | _ => simp [hu] at h2

/-! ### zeros -/
theorem length_zeros (z : List AV) : ∀ n, (zeros z n).length = n * z.length
  | 0 => by simp [zeros]
  | n + 1 => by rw [zeros, List.length_append, length_zeros z n, Nat.add_mul]; omega
theorem zeros_get (z : List AV) : ∀ (n j : Nat), j < n * z.length → (zeros z n)[j]? = z[j % z.length]?
  | 0, j, h => by omega
  | n + 1, j, h => by
    rw [zeros, List.getElem?_append]
    split
    · rename_i hl
      rw [Nat.mod_eq_of_lt hl]
    · rename_i hl
      rw [zeros_get z n _ (by rw [Nat.add_mul] at h; omega)]
      congr 1
      rw [← Nat.mod_eq_sub_mod (by omega)]
theorem zeros_F2 {z : List AV} {zc : Array Value} (hz : F2 (VC lk ρ) z zc.toList) (n : Nat) {xs : List Value} (hl : xs.length = n * zc.size) (hx : ∀ j, j < n * zc.size → xs[j]? = zc[j % zc.size]?) : F2 (VC lk ρ) (zeros z n) xs := by
  have hzl : z.length = zc.size := by simpa using hz.length
  refine F2.of_get (by rw [length_zeros, hl, hzl]) fun j u v hu hv => ?_
  have hj : j < n * z.length := by have := (List.getElem?_eq_some_iff.1 hu).1; rwa [length_zeros] at this
  rw [zeros_get z n j hj] at hu
  rw [hx j (by rw [← hzl]; exact hj)] at hv
  obtain ⟨y, h1, h2⟩ := hz.getA hu
  rw [hzl, hv] at h1
  cases h1
  exact h2
theorem getBang_of {zc : Array Value} {j : Nat} (h : j < zc.size) : some (zc[j]!) = zc[j]? := by simp [h]
theorem zeros_made {z : List AV} {zc : Array Value} (hz : F2 (VC lk ρ) z zc.toList) (n : Nat) : F2 (VC lk ρ) (zeros z n) (madeCells zc (n * zc.size)).toList := by
  refine zeros_F2 hz n (by simp [madeCells]) fun j hj => ?_
  have h0 : 0 < zc.size := Nat.pos_of_mul_pos_left (Nat.lt_of_le_of_lt (Nat.zero_le _) hj)
  have := Nat.mod_lt j h0
  simp [madeCells, hj, this]
theorem zeros_zero {z : List AV} {zc : Array Value} (hz : F2 (VC lk ρ) z zc.toList) (n : Nat) : F2 (VC lk ρ) (zeros z n) (Builtin.zeroCells zc n).toList := by
  refine zeros_F2 hz n (by simp [Builtin.zeroCells]) fun j hj => ?_
  have h0 : 0 < zc.size := Nat.pos_of_mul_pos_left (Nat.lt_of_le_of_lt (Nat.zero_le _) hj)
  have := Nat.mod_lt j h0
  simp [Builtin.zeroCells, hj, this]
theorem F2.row {cs : List AV} {cur : Array Value} (hf : F2 (VC lk ρ) cs cur.toList) : ∀ (j : Nat) (x : AV), cs[j]? = some x → ∃ y, cur[j]? = some y ∧ VC lk ρ x y := fun j x hx => hf.getA hx
/-- a new block, all of whose cells are known -/
theorem Rel.newRow (r : Rel lk ρ h w) (f : ρ h.next = none) {cs : List AV} {cur : Array Value} (hf : F2 (VC lk ρ) cs cur.toList) (ty : TypeId) :
    Rel lk (ρ.add h.next w.heap.size cur.size) (h.alloc (.row cs false)) (w.alloc (.cells cur ty)) ∧ Stp ρ h w (ρ.add h.next w.heap.size cur.size) (h.alloc (.row cs false)) (w.alloc (.cells cur ty)) :=
  r.allocRow f (by have := hf.length; simp at this; omega) (fun j _ => by simp) hf.row

def bslK (P : Program) (lk : Lk) (t : TypeId) (len : Nat) (ps : Array (Nat × Operand)) (esz : Nat) (z : List AV) (qs : List (Nat × Nat × AX)) : Bool :=
  match P.underlying t with
  | some (.slice e) =>
    match zT P e with
    | some zv => decide (szT P e = some esz) && decide (zv.cells.size = esz) && decide (len * esz ≤ 16777216) && all2 chkV (madeCells zv.cells (len * esz)).toList z && all2 (partK lk fun i => some (i * esz, esz)) ps.toList qs
    | none => false
  | _ => false
theorem bsl_sound (r : Rel lk ρ h w) {nt : Nat} {e : Env} {a : Act} (er : ER lk ρ nt e a) (f : ρ h.next = none) {t : TypeId} {len esz : Nat} {ps : Array (Nat × Operand)} {z cs : List AV} {qs : List (Nat × Nat × AX)}
    (hc : bslK P lk t len ps esz z qs = true) (hr : fills e z qs = some cs) (hl : cs.length = len * esz) :
    ∃ y w' ρ', (Instr.buildSlice t len (ps.map fun (i, x) => (i, a.eval x))).run P w = .ok y w' ∧ VE lk ρ' (.sl h.next 0 len len 0) y ∧ Rel lk ρ' (h.alloc (.row cs false)) w' ∧ Stp ρ h w ρ' (h.alloc (.row cs false)) w' := by
  unfold bslK at hc
  split at hc
  · rename_i el hd
    cases hz : zT P el with
    | none => simp [hz] at hc
    | some zv =>
      simp only [hz, Bool.and_eq_true, decide_eq_true_eq] at hc
      obtain ⟨⟨⟨⟨h1, h2⟩, h3⟩, h4⟩, h5⟩ := hc
      have hz0 : F2 (VC lk ρ) z (madeCells zv.cells (len * esz)).toList := all2_sound (fun _ _ => chkV_sound) h4
      obtain ⟨cells', h6, h7⟩ := fills_sound er h5 hz0 hr
      have hn := r.newRow f h7 el
      refine ⟨_, _, _, ?_, (VC.sl (Rho.add_same _ _ _ _) (Nat.le_refl _) (Nat.le_refl _) (fun _ => rfl) (.inl rfl) (fun h => absurd rfl h)).e, hn.1, hn.2⟩
      have h6' : Instr.fill (fun i => some (i * esz, esz)) (madeCells zv.cells (len * esz)) (List.map (fun p => (p.1, a.eval p.2)) ps.toList) = some cells' := h6
      have hm : madeCells zv.cells (len * esz) = (Array.range (len * esz)).map (zv.cells[· % zv.cells.size]!) := rfl
      by_cases h0 : len * esz = 0
      · have e0 : madeCells zv.cells (len * esz) = #[] := by rw [h0]; simp [madeCells]
        rw [e0] at h6'
        simp [Instr.buildSlice, run_underlying hd, run_szT h1, h0, newRow, Array.range_zero', h6']
      · rw [hm] at h6'
        simp [Instr.buildSlice, run_underlying hd, run_szT h1, h0, show ¬ 16777216 < len * esz by omega, run_zT hz, newRow, h6']
  · cases hc

def mksK (P : Program) (t : TypeId) (esz bytes : Nat) (z : List AV) : Bool :=
  match P.underlying t with
  | some (.slice e) =>
    match P.info? e with
    | some i => decide (i.size = esz) && decide (i.bytes = bytes) && (match i.zero with | some zv => decide (zv.cells.size = esz) && chkZ zv z | none => false)
    | none => false
  | _ => false
theorem amake_sound (r : Rel lk ρ h w) {t : TypeId} {esz bytes : Nat} {z : List AV} {u x v : AV} {a c : Value} {h' : AH} (ht : mksK P t esz bytes z = true) (f : Free ρ h.next h'.next) (hu : VE lk ρ u a) (hx : VE lk ρ x c)
    (hr : amake esz bytes z u x h = some (v, h')) : ∃ y w' ρ', (Instr.makeSlice t a c).run P w = .ok y w' ∧ VE lk ρ' v y ∧ Rel lk ρ' h' w' ∧ Stp ρ h w ρ' h' w' := by
  unfold mksK at ht
  split at ht
  · rename_i e hd
    cases hi : P.info? e with
    | none => simp [hi] at ht
    | some i =>
      cases hz : i.zero with
      | none => simp [hi, hz] at ht
      | some zv =>
        simp only [hi, hz, Bool.and_eq_true, decide_eq_true_eq] at ht
        obtain ⟨⟨h1, h2⟩, h3, h4⟩ := ht
        unfold amake at hr
        split at hr
        · rename_i l c'
          split at hr
          · rename_i hb
            obtain ⟨b1, b2, b3, b4, b5⟩ := hb
            cases hr
            obtain rfl := hu.i
            obtain rfl := hx.i
            have hz0 : F2 (VC lk ρ) z zv.cells.toList := all2_sound (fun _ _ => chkV_sound) h4
            have hf := zeros_made hz0 c'.toNat
            have hn := r.newRow (f h.next (Nat.le_refl _) (Nat.lt_succ_self _)) hf e
            have b3' : c' * (bytes : Int) ≤ 140737488355328 := by simpa [room] using b3
            have hcb : (i.bytes : Int) * c' ≤ 281474976710656 := by rw [h2, Int.mul_comm]; omega
            have hc63 : c' ≤ 9223372036854775807 := by
              have : c' * 1 ≤ c' * (bytes : Int) := Int.mul_le_mul_of_nonneg_left (by omega) (by omega)
              omega
            have hrun := run_make (P := P) w t e i zv hd hi hz .i64 .i64 l c' b1 b2 hcb hc63
            rw [h1, ← h3] at hrun
            exact ⟨_, _, _, hrun, (VC.sl (Rho.add_same _ _ _ _) (by omega) (Nat.le_refl _) (fun _ => rfl) (.inl rfl) (fun h => absurd rfl h)).e, hn.1, hn.2⟩
          · cases hr
        · cases hr
  · cases ht

/-! ### copy, clear -/
def cpyK (P : Program) (ts : Array TypeId) (esz : Nat) : Bool :=
  match ts.toList with
  | t :: _ => elK P t esz
  | _ => false
theorem acopy_sound (r : Rel lk ρ h w) {ts : Array TypeId} {ty : TypeId} {esz : Nat} {u x v : AV} {a c : Value} {h' : AH} (ht : cpyK P ts esz = true) (hu : VE lk ρ u a) (hx : VE lk ρ x c)
    (hr : acopy esz u x h = some (v, h')) : ∃ y w', (Builtin.copy_ ts ty #[a, c]).run P w = .ok y w' ∧ VE lk ρ v y ∧ Rel lk ρ h' w' ∧ Stp ρ h w ρ h' w' := by
  unfold cpyK at ht
  split at ht
  · rename_i t tr hts
    obtain ⟨e, hd, hs⟩ := elK_spec ht
    have ht0 : ts[0]? = some t := by rw [← Array.getElem?_toList, hts]; rfl
    unfold acopy at hr
    split at hr
    · cases hr
    · rename_i n new hsh
      obtain ⟨hl, xs, hn, hxs, hlen⟩ := show_sound (P := P) r hx hsh
      -- the first cells of what is copied
      have first : ∀ m, m ≤ n → (Builtin.firstCells esz m c).run P w = .ok (xs.take (m * esz)).toArray w := by
        intro m hm
        have hml : m * esz ≤ n * esz := Nat.mul_le_mul_right _ hm
        unfold ashow at hsh
        split at hsh
        · cases hsh
          obtain rfl := hx.nils
          have : m = 0 := by omega
          subst this
          have : xs = [] := List.eq_nil_of_length_eq_zero (by rw [← hxs.length]; rfl)
          subst this
          simp [Builtin.firstCells]
        · cases hsh
          obtain ⟨ad, rfl⟩ := hx.es
          have : m = 0 := by omega
          subst this
          have : xs = [] := List.eq_nil_of_length_eq_zero (by rw [← hxs.length]; rfl)
          subst this
          simp [Builtin.firstCells, loadCells, loadCellsFrom]
        · rename_i id off k cap lo
          obtain ⟨b, t', o, c', hid, g0, g1, g2, g3, g4, rfl⟩ := hx.sl
          cases hv : h.rdn id off (k * esz) with
          | none => simp [hv] at hsh
          | some q =>
            simp [hv] at hsh
            obtain ⟨rfl, rfl⟩ := hsh
            simp only [Builtin.firstCells] at hn ⊢
            rcases Nat.eq_zero_or_pos (m * esz) with h0 | h0
            · rw [h0]; simp [loadCells, loadCellsFrom]
            · have ho : o = off := g3.resolve_right (by
                intro hc0
                have : k = 0 := by omega
                subst this
                omega)
              subst ho
              unfold AH.rdn at hv
              split at hv
              · rename_i cs' ro hb
                split at hv
                · rename_i hll
                  cases hv
                  obtain ⟨cur, ty', fz, q1, q2, q3, q4, q5⟩ := r.row hid hb
                  rw [run_loadRow q1 (k * esz) (by omega)] at hn
                  have e1 : (List.take (k * esz) (List.drop o cur.toList)) = xs := by
                    have := congrArg (fun r => match r with | Result.ok x _ => x.toList | _ => []) hn
                    simpa using this
                  rw [run_loadRow q1 (m * esz) (by omega), ← e1, List.take_take, Nat.min_eq_left hml]
                · cases hv
              · cases hv
        · rename_i l
          split at hsh
          · rename_i he
            cases hsh
            subst he
            obtain ⟨y, hy, rfl⟩ := hx.s
            simp only [Builtin.firstCells, Sem.run_pure] at hn ⊢
            have e1 : xs = l.map fun c => Value.int .u8 c.toNat := by
              have := congrArg (fun r => match r with | Result.ok x _ => x.toList | _ => []) hn
              have hy2 : y = ⟨l.toArray⟩ := by cases y; simp at hy; simp [← hy]
              rw [hy2, ByteArray.extract_mk] at this
              simp only [List.drop_zero, Nat.sub_zero, List.take_length] at this
              simpa using this.symm
            have hy2 : y = ⟨l.toArray⟩ := by cases y; simp at hy; simp [← hy]
            rw [hy2, ByteArray.extract_mk, e1]
            simp [List.map_take]
          · cases hsh
        · cases hsh
      split at hr
      · obtain rfl := hu.nils
        cases hr
        refine ⟨.int .i64 0, w, ?_, (VC.i _ _).e, r, .refl _ _ _⟩
        have := first 0 (Nat.zero_le _)
        simp at this
        simp [Builtin.copy_, ht0, run_underlying hd, hl, run_szT hs, this, goInt]
      · rename_i id off len cap lo
        obtain ⟨b, t', o, c', hid, g0, g1, g2, g3, g4, rfl⟩ := hu.sl
        have hf := first (min n len) (Nat.min_le_left _ _)
        split at hr
        · rename_i h0
          cases hr
          refine ⟨.int .i64 0, w, ?_, (VC.i _ _).e, r, .refl _ _ _⟩
          rw [h0] at hf
          simp at hf
          have h0' : Nat.min n len = 0 := h0
          simp [Builtin.copy_, ht0, run_underlying hd, hl, run_szT hs, h0', hf, goInt, storeCells]
        · rename_i h0
          cases hw : h.wr id off (new.take (min n len * esz)) with
          | none => simp [hw] at hr
          | some h2 =>
            simp [hw] at hr
            obtain ⟨rfl, rfl⟩ := hr
            have ho : o = off := g3.resolve_right (by omega)
            subst ho
            obtain ⟨h3, h4, h5⟩ := wr_sound (P := P) r hid hw (hxs.take (min n len * esz))
            refine ⟨.int .i64 (Nat.min n len : Nat), _, ?_, by simpa using (VC.i (lk := lk) (ρ := ρ) .i64 ((min n len : Nat) : Int)).e, h4, h5⟩
            have hf' : (Builtin.firstCells esz (Nat.min n len) c).run P w = .ok (xs.take (min n len * esz)).toArray w := hf
            simp [Builtin.copy_, ht0, run_underlying hd, hl, run_szT hs, hf', goInt, h3]
      · cases hr
  · cases ht
def clrK (P : Program) (ts : Array TypeId) (esz : Nat) (z : List AV) : Bool :=
  match ts.toList with
  | t :: _ =>
    match P.underlying t with
    | some (.slice e) => (match zT P e with | some zv => decide (zv.cells.size = esz) && chkZ zv z | none => false)
    | _ => false
  | _ => false
theorem aclear_sound (r : Rel lk ρ h w) {ts : Array TypeId} {ty : TypeId} {esz : Nat} {z : List AV} {u v : AV} {a : Value} {h' : AH} (ht : clrK P ts esz z = true) (hu : VE lk ρ u a)
    (hr : aclear esz z u h = some (v, h')) : ∃ y w', (Builtin.clear_ ts ty #[a]).run P w = .ok y w' ∧ VE lk ρ v y ∧ Rel lk ρ h' w' ∧ Stp ρ h w ρ h' w' := by
  unfold clrK at ht
  split at ht
  · rename_i t tr hts
    have ht0 : ts[0]? = some t := by rw [← Array.getElem?_toList, hts]; rfl
    split at ht
    · rename_i e hd
      cases hz : zT P e with
      | none => simp [hz] at ht
      | some zv =>
        simp only [hz, Bool.and_eq_true, decide_eq_true_eq] at ht
        obtain ⟨h1, h2⟩ := ht
        have hz0 : F2 (VC lk ρ) z zv.cells.toList := all2_sound (fun _ _ => chkV_sound) h2
        unfold aclear at hr
        split at hr
        · obtain rfl := hu.nils
          cases hr
          exact ⟨.tuple #[], w, by simp [Builtin.clear_, ht0, run_underlying hd], .tup trivial, r, .refl _ _ _⟩
        · rename_i id off n cap lo
          obtain ⟨b, t', o, c', hid, g0, g1, g2, g3, g4, rfl⟩ := hu.sl
          split at hr
          · rename_i h0
            cases hr
            subst h0
            exact ⟨.tuple #[], w, by simp [Builtin.clear_, ht0, run_underlying hd], .tup trivial, r, .refl _ _ _⟩
          · rename_i h0
            split at hr
            · cases hw : h.wr id off (zeros z n) with
              | none => simp [hw] at hr
              | some h2 =>
                simp [hw] at hr
                obtain ⟨rfl, rfl⟩ := hr
                have ho : o = off := g3.resolve_right (by omega)
                subst ho
                obtain ⟨m, rfl⟩ : ∃ m, n = m + 1 := ⟨n - 1, by omega⟩
                obtain ⟨h3, h4, h5⟩ := wr_sound (P := P) r hid hw (zeros_zero hz0 (m + 1))
                exact ⟨.tuple #[], _, by simp [Builtin.clear_, ht0, run_underlying hd, run_zT hz, h3], .tup trivial, h4, h5⟩
            · cases hr
        · cases hr
    · cases ht
  · cases ht
end
end Go.Proofs.Ytpgoemmjhnnmoaa.Ab
