/- The look at one operation, and that it does what the model's does. -/
import Derived.Test.YtpgoemmjhnnmoaaAbOps8
namespace Go.Proofs.Ytpgoemmjhnnmoaa.Ab
open Go
set_option linter.unusedVariables false

/-- is the abstract operation this one of the model's? -/
def chkOp (P : Program) (lk : Lk) (o : Op) (x : AO) : Bool :=
  match x with
  | .mv y =>
    (match o with
     | .move q | .assign q => chkX lk q y
     | .call { callee := .builtin .len, args := as, argTypes := ts } =>
       decide (0 < as.size) &&
       (match ts.toList, y with
        | t :: _, .c (.i .i64 n) => (match P.underlying t with | some (.array m _) => decide ((m : Int) = n) | _ => false)
        | _, _ => false)
     | _ => false)
  | .pick c a b => (match o with | .pick c' a' b' => chkX lk c' c && chkX lk a' a && chkX lk b' b | _ => false)
  | .bin op y z => (match o with | .binOp op' _ y' z' _ => decide (op' = op) && chkX lk y' y && chkX lk z' z | _ => false)
  | .eq kd neg y z => (match o with | .binOp op' t y' z' _ => decide (op' = if neg then .neq else .eql) && eqK P t kd && chkX lk y' y && chkX lk z' z | _ => false)
  | .not y => (match o with | .unOp .not _ q => chkX lk q y | _ => false)
  | .neg y => (match o with | .unOp .neg _ q => chkX lk q y | _ => false)
  | .xor y => (match o with | .unOp .xor _ q => chkX lk q y | _ => false)
  | .toInt k y => (match o with | .convert s d q => (P.underlying s).isSome && (match P.underlying d with | some (.int k') => decide (k' = k) | _ => false) && chkX lk q y | _ => false)
  | .same y => (match o with | .convert s d q => (P.underlying s).isSome && (match P.underlying d with | some .string => true | _ => false) && chkX lk q y | _ => false)
  | .toStr y => (match o with | .convert s d q => (match P.underlying s with | some (.slice e) => (match P.underlying e with | some (.int .u8) => true | _ => false) | _ => false) && (match P.underlying d with | some .string => true | _ => false) && chkX lk q y | _ => false)
  | .toBytes y => (match o with | .convert s d q => (P.underlying s).isSome && (match P.underlying d with | some (.slice e) => (match P.underlying e with | some (.int .u8) => true | _ => false) | _ => false) && chkX lk q y | _ => false)
  | .runeStr y => (match o with | .convert s d q => (P.underlying s).isSome && (match P.underlying d with | some .string => true | _ => false) && chkX lk q y | _ => false)
  | .alloc z => (match o with | .alloc t => (match zT P t with | some v => chkZ v z | none => false) | _ => false)
  | .box sz y => (match o with | .box _ q => chkX lk q y | _ => false)
  | .build z qs => (match o with | .build t ps => buildK P lk t ps z qs | _ => false)
  | .bsl esz len z qs => (match o with | .buildSlice t n ps => decide (n = len) && bslK P lk t n ps esz z qs | _ => false)
  | .ld sz y => (match o with | .load t q => ldK P t sz && chkX lk q y | _ => false)
  | .st sz y z => (match o with | .store t q r => decide (szT P t = some sz) && chkX lk q y && chkX lk r z | _ => false)
  | .chk y => (match o with | .nilCheck q => chkX lk q y | _ => false)
  | .fa off y => (match o with | .fieldAddr t q f => faK P t f off && chkX lk q y | _ => false)
  | .ia esz y i => (match o with | .indexAddr t q j => elK P t esz && chkX lk q y && chkX lk j i | _ => false)
  | .iaa n esz y i => (match o with | .indexAddr t q j => arK P t n esz && chkX lk q y && chkX lk j i | _ => false)
  | .ix n esz ag y i => (match o with | .index t q j => ixK P t n esz ag && chkX lk q y && chkX lk j i | _ => false)
  | .ixs y i => (match o with | .index t q j => (match P.underlying t with | some .string => true | _ => false) && chkX lk q y && chkX lk j i | _ => false)
  | .fld off sz y => (match o with | .field t q f => fldK P t f off sz && chkX lk q y | _ => false)
  | .ext n y => (match o with | .extract q m => decide (m = n) && chkX lk q y | _ => false)
  | .slc esz y lo hi mx => (match o with | .slice t q l h m => elK P t esz && chkX lk q y && chkO lk l lo && chkO lk h hi && chkO lk m mx && (m.isNone || h.isSome) | _ => false)
  | .sls y lo hi => (match o with | .slice t q l h none => (match P.underlying t with | some .string => true | _ => false) && chkX lk q y && chkO lk l lo && chkO lk h hi | _ => false)
  | .sla n esz y lo hi => (match o with | .slice t q l h none => arK P t n esz && chkX lk q y && chkO lk l lo && chkO lk h hi | _ => false)
  | .mks esz bytes z l c => (match o with | .makeSlice t l' c' => mksK P t esz bytes z && chkX lk l' l && chkX lk c' c | _ => false)
  | .mkm => (match o with | .makeMap _ none => true | _ => false)
  | .lkp kk z ok m k => (match o with | .lookup t m' k' ok' => decide (ok' = ok) && lkpK P t kk z && chkX lk m' m && chkX lk k' k | _ => false)
  | .mup kk m k v => (match o with | .mapUpdate t m' k' v' | .insert t m' k' v' => mapK P t kk && chkX lk m' m && chkX lk k' k && chkX lk v' v | _ => false)
  | .ment kk z m k => (match o with | .mapEntry t m' k' => lkpK P t kk z && chkX lk m' m && chkX lk k' k | _ => false)
  | .mst m s v => (match o with | .entryStore _ m' s' v' => chkX lk m' m && chkX lk s' s && chkX lk v' v | _ => false)
  | .mkf f first cap => (match o with | .makeFunc (.func g) first' cap' => decide (lk f = some g) && all2 (chkX lk) first'.toList first && all2 (chkX lk) cap'.toList cap | _ => false)
  | .call f args => (match o with | .call { callee := .value (.func g), args := as, argTypes := _ } => decide (lk f = some g) && all2 (chkX lk) as.toList args | _ => false)
  | .callv f args => (match o with | .call { callee := .value q, args := as, argTypes := _ } => chkX lk q f && all2 (chkX lk) as.toList args | _ => false)
  | .len k y => (match o with | .call { callee := .builtin .len, args := as, argTypes := ts } => lenK P ts k && all2 (chkX lk) as.toList [y] | _ => false)
  | .app esz bytes s y => (match o with | .call { callee := .builtin .append, args := as, argTypes := ts } => appK P ts esz bytes && all2 (chkX lk) as.toList [s, y] | _ => false)
  | .cpy esz d s => (match o with | .call { callee := .builtin .copy, args := as, argTypes := ts } => cpyK P ts esz && all2 (chkX lk) as.toList [d, s] | _ => false)
  | .mn l => (match o with | .call { callee := .builtin .min, args := as, argTypes := _ } => all2 (chkX lk) as.toList l | _ => false)
  | .mx l => (match o with | .call { callee := .builtin .max, args := as, argTypes := _ } => all2 (chkX lk) as.toList l | _ => false)
  | .del kk m k => (match o with | .call { callee := .builtin .delete, args := as, argTypes := ts } => delK P ts kk && all2 (chkX lk) as.toList [m, k] | _ => false)
  | .clr esz z y => (match o with | .call { callee := .builtin .clear, args := as, argTypes := ts } => clrK P ts esz z && all2 (chkX lk) as.toList [y] | _ => false)

section
variable {P : Program} {lk : Lk} {ρ : Rho} {h : AH} {w : World} {nt : Nat} {e : Env} {a : Act}
theorem chkXs_sound (er : ER lk ρ nt e a) {os : Array Operand} {xs : List AX} (h : all2 (chkX lk) os.toList xs = true) : F2 (VE lk ρ) (xs.map (ev e)) (os.map a.eval).toList := by
  have := all2_sound (R := fun y x => VE lk ρ (ev e y) (a.eval x)) (fun x y h => chkX_sound h er) h
  rw [Array.toList_map]
  generalize os.toList = l at this
  clear h
  induction xs generalizing l with
  | nil => cases l with | nil => trivial | cons => exact this.elim
  | cons y ys ih => cases l with | nil => exact this.elim | cons o l => exact ⟨this.1, ih l this.2⟩
theorem chkO_sound (er : ER lk ρ nt e a) {o : Option Operand} {x : Option AX} (h : chkO lk o x = true) : VEO lk ρ (x.map (ev e)) (o.map a.eval) := by
  cases o <;> cases x <;> simp [chkO] at h
  · trivial
  · exact chkX_sound h er
theorem args1 {os : Array Operand} {x : AX} (h : all2 (chkX lk) os.toList [x] = true) : ∃ o, os = #[o] ∧ chkX lk o x = true := by
  cases hl : os.toList with
  | nil => simp [hl, all2] at h
  | cons o l =>
    cases l with
    | nil => simp only [hl, all2, Bool.and_true] at h; exact ⟨o, by rw [← Array.toArray_toList (xs := os), hl], h⟩
    | cons => simp [hl, all2] at h
theorem args2 {os : Array Operand} {x y : AX} (h : all2 (chkX lk) os.toList [x, y] = true) : ∃ o q, os = #[o, q] ∧ chkX lk o x = true ∧ chkX lk q y = true := by
  cases hl : os.toList with
  | nil => simp [hl, all2] at h
  | cons o l =>
    cases l with
    | nil => simp [hl, all2] at h
    | cons q l =>
      cases l with
      | nil => simp only [hl, all2, Bool.and_true, Bool.and_eq_true] at h; exact ⟨o, q, by rw [← Array.toArray_toList (xs := os), hl], h.1, h.2⟩
      | cons => simp [hl, all2] at h

theorem mv_sound (r : Rel lk ρ h w) (er : ER lk ρ nt e a) {o : Oper} {y : AX} (hc : chkOp P lk o.op (.mv y) = true) : OpS lk ρ h w ((execOp a.eval o).run P w) (ev e y) h := by
  obtain ⟨dst, op, ty, pos, after, guard⟩ := o
  simp only [chkOp] at hc
  split at hc
  · exact ⟨_, w, ρ, .inl rfl, chkX_sound hc er, r, .refl _ _ _⟩
  · exact ⟨_, w, ρ, .inl rfl, chkX_sound hc er, r, .refl _ _ _⟩
  · rename_i as ts
    simp only [Bool.and_eq_true, decide_eq_true_eq] at hc
    obtain ⟨hn, hc⟩ := hc
    split at hc
    · rename_i t tr n hts
      have ht0 : ts[0]? = some t := by rw [← Array.getElem?_toList, hts]; rfl
      cases hd : P.underlying t with
      | none => simp [hd] at hc
      | some d =>
        cases d with
        | array m el =>
          simp only [hd, decide_eq_true_eq] at hc
          subst hc
          have ha0 : (as.map a.eval)[0]? = some (a.eval as[0]) := by simp [hn]
          refine OpS.pur (s := Builtin.len_ ts ty (as.map a.eval)) r (x := .int .i64 m) ?_ (VC.i _ _).e
          simp only [Builtin.len_, ht0, ha0, Sem.run_bind, run_underlying hd, Result.andThen_ok]
          rfl
        | _ => simp [hd] at hc
    · cases hc
  · cases hc

theorem aop_sound (r : Rel lk ρ h w) (er : ER lk ρ nt e a) {o : Oper} {x : AO} {v : AV} {h' : AH} (hc : chkOp P lk o.op x = true) (hr : aop x e h = some (v, h')) (f : Free ρ h.next h'.next) :
    OpS lk ρ h w ((execOp a.eval o).run P w) v h' := by
  cases x with
  | mv y =>
    simp only [aop, Option.some.injEq, Prod.mk.injEq] at hr
    obtain ⟨rfl, rfl⟩ := hr
    exact mv_sound r er hc
  | pick c p q =>
    obtain ⟨dst, op, ty, pos, after, guard⟩ := o
    simp only [chkOp] at hc
    split at hc
    · simp only [Bool.and_eq_true] at hc
      obtain ⟨⟨h1, h2⟩, h3⟩ := hc
      have hcv := chkX_sound h1 er
      simp only [aop] at hr
      split at hr
      · rename_i hb
        cases hr
        rw [hb] at hcv
        exact ⟨_, w, ρ, .inl (by simp [execOp, hcv.b, asBool]), chkX_sound h2 er, r, .refl _ _ _⟩
      · rename_i hb
        cases hr
        rw [hb] at hcv
        exact ⟨_, w, ρ, .inl (by simp [execOp, hcv.b, asBool]), chkX_sound h3 er, r, .refl _ _ _⟩
      · cases hr
    · cases hc
  | bin op p q =>
    obtain ⟨dst, op', ty, pos, after, guard⟩ := o
    simp only [chkOp] at hc
    split at hc
    · simp only [Bool.and_eq_true, decide_eq_true_eq] at hc
      obtain ⟨⟨rfl, h2⟩, h3⟩ := hc
      have hpu := pureh_some hr
      clear hr
      obtain ⟨hr, rfl⟩ := hpu
      obtain ⟨z, h4, h5⟩ := abin_sound (P := P) (w := w) (chkX_sound h2 er) (chkX_sound h3 er) hr
      exact OpS.pur r h4 h5
    · cases hc
  | eq kd neg p q =>
    obtain ⟨dst, op', ty, pos, after, guard⟩ := o
    simp only [chkOp] at hc
    split at hc
    · simp only [Bool.and_eq_true, decide_eq_true_eq] at hc
      obtain ⟨⟨⟨h0, h1⟩, h2⟩, h3⟩ := hc
      have hpu := pureh_some hr
      clear hr
      obtain ⟨hr, rfl⟩ := hpu
      simp only [Option.map_eq_some_iff] at hr
      obtain ⟨b, hb, rfl⟩ := hr
      exact OpS.pur r (aeq_sound (P := P) (w := w) h0 h1 (chkX_sound h2 er) (chkX_sound h3 er) hb) (VC.b _).e
    · cases hc
  | not y =>
    obtain ⟨dst, op', ty, pos, after, guard⟩ := o
    simp only [chkOp] at hc
    split at hc
    · have hpu := pureh_some hr
      clear hr
      obtain ⟨hr, rfl⟩ := hpu
      have hv := chkX_sound hc er
      split at hr
      · rename_i b hb
        cases hr
        rw [hb] at hv
        exact OpS.pur r (s := Op.unary .not _) (x := .bool (!b)) (by rw [hv.b]; rfl) (VC.b _).e
      · cases hr
    · cases hc
  | neg y =>
    obtain ⟨dst, op', ty, pos, after, guard⟩ := o
    simp only [chkOp] at hc
    split at hc
    · have hpu := pureh_some hr
      clear hr
      obtain ⟨hr, rfl⟩ := hpu
      have hv := chkX_sound hc er
      split at hr
      · rename_i k n hb
        cases hr
        rw [hb] at hv
        exact OpS.pur r (s := Op.unary .neg _) (x := .int k (k.wrap (0 - n))) (by rw [hv.i]; rfl) (VC.i _ _).e
      · cases hr
    · cases hc
  | xor y =>
    obtain ⟨dst, op', ty, pos, after, guard⟩ := o
    simp only [chkOp] at hc
    split at hc
    · have hpu := pureh_some hr
      clear hr
      obtain ⟨hr, rfl⟩ := hpu
      have hv := chkX_sound hc er
      split at hr
      · rename_i k n hb
        cases hr
        rw [hb] at hv
        exact OpS.pur r (s := Op.unary .xor _) (by rw [hv.i]; rfl) (VC.i _ _).e
      · cases hr
    · cases hc
  | toInt k y =>
    obtain ⟨dst, op', ty, pos, after, guard⟩ := o
    simp only [chkOp] at hc
    split at hc
    · rename_i s d q
      simp only [Bool.and_eq_true] at hc
      obtain ⟨⟨h1, h2⟩, h3⟩ := hc
      obtain ⟨sd, hs⟩ := Option.isSome_iff_exists.1 h1
      have hpu := pureh_some hr
      clear hr
      obtain ⟨hr, rfl⟩ := hpu
      have hv := chkX_sound h3 er
      split at h2
      · rename_i k' hd
        have := of_decide_eq_true h2
        subst this
        split at hr
        · rename_i k0 n hb
          cases hr
          rw [hb] at hv
          exact OpS.pur r (toInt_sound hs hd hv) (VC.i _ _).e
        · cases hr
      · cases h2
    · cases hc
  | same y =>
    obtain ⟨dst, op', ty, pos, after, guard⟩ := o
    simp only [chkOp] at hc
    split at hc
    · rename_i s d q
      simp only [Bool.and_eq_true] at hc
      obtain ⟨⟨h1, h2⟩, h3⟩ := hc
      obtain ⟨sd, hs⟩ := Option.isSome_iff_exists.1 h1
      have hpu := pureh_some hr
      clear hr
      obtain ⟨hr, rfl⟩ := hpu
      have hv := chkX_sound h3 er
      split at h2
      · rename_i hd
        split at hr
        · rename_i l hb
          cases hr
          rw [hb] at hv
          exact OpS.pur r (same_sound hs hd hv) hv
        · cases hr
      · cases h2
    · cases hc
  | toStr y =>
    obtain ⟨dst, op', ty, pos, after, guard⟩ := o
    simp only [chkOp] at hc
    split at hc
    · rename_i s d q
      simp only [Bool.and_eq_true] at hc
      obtain ⟨⟨h1, h2⟩, h3⟩ := hc
      have hv := chkX_sound h3 er
      split at h1
      · rename_i el hs
        split at h1
        · rename_i he
          split at h2
          · rename_i hd
            simp only [aop] at hr
            split at hr
            · rename_i n cs hsh
              have hpu := pureh_some hr
              clear hr
              obtain ⟨hr, rfl⟩ := hpu
              simp only [Option.map_eq_some_iff] at hr
              obtain ⟨l, hb, rfl⟩ := hr
              obtain ⟨z, h4, h5⟩ := toStr_sound (P := P) r hs he hd hv hsh hb
              exact OpS.pur r h4 h5
            · cases hr
          · cases h2
        · cases h1
      · cases h1
    · cases hc
  | toBytes y =>
    obtain ⟨dst, op', ty, pos, after, guard⟩ := o
    simp only [chkOp] at hc
    split at hc
    · rename_i s d q
      simp only [Bool.and_eq_true] at hc
      obtain ⟨⟨h1, h2⟩, h3⟩ := hc
      obtain ⟨sd, hs⟩ := Option.isSome_iff_exists.1 h1
      have hv := chkX_sound h3 er
      split at h2
      · rename_i el hd
        split at h2
        · rename_i he
          simp only [aop] at hr
          split at hr
          · rename_i l hb
            split at hr
            · cases hr
              rw [hb] at hv
              obtain ⟨z, w', ρ', h4, h5, h6, h7⟩ := toBytes_sound (P := P) r (f h.next (Nat.le_refl _) (Nat.lt_succ_self _)) hs hd he hv
              exact OpS.val h4 h5 ⟨h6, h7⟩
            · cases hr
          · cases hr
        · cases h2
      · cases h2
    · cases hc
  | runeStr y =>
    obtain ⟨dst, op', ty, pos, after, guard⟩ := o
    simp only [chkOp] at hc
    split at hc
    · rename_i s d q
      simp only [Bool.and_eq_true] at hc
      obtain ⟨⟨h1, h2⟩, h3⟩ := hc
      obtain ⟨sd, hs⟩ := Option.isSome_iff_exists.1 h1
      have hpu := pureh_some hr
      clear hr
      obtain ⟨hr, rfl⟩ := hpu
      have hv := chkX_sound h3 er
      split at h2
      · rename_i hd
        split at hr
        · rename_i k n hb
          split at hr
          · rename_i hn
            cases hr
            rw [hb] at hv
            obtain ⟨z, h4, h5⟩ := runeStr_sound (P := P) (w := w) hs hd hn hv
            exact OpS.pur r h4 h5
          · cases hr
        · cases hr
      · cases h2
    · cases hc
  | alloc z =>
    obtain ⟨dst, op', ty, pos, after, guard⟩ := o
    simp only [chkOp] at hc
    split at hc
    · rename_i t
      cases hz : zT P t with
      | none => simp [hz] at hc
      | some zv =>
        simp only [hz] at hc
        simp only [aop, Option.some.injEq, Prod.mk.injEq] at hr
        obtain ⟨rfl, rfl⟩ := hr
        have hn := r.newRow (f h.next (Nat.le_refl _) (Nat.lt_succ_self _)) (all2_sound (fun _ _ => chkV_sound) hc) t
        refine OpS.val (s := Instr.alloc t true (.tuple #[])) (x := .pointer (some ⟨w.heap.size, 0, none⟩)) ?_ (VC.ptr (Rho.add_same _ _ _ _)).e hn
        simp [Instr.alloc, run_zT hz, newVar, newRow]
    · cases hc
  | box sz y =>
    obtain ⟨dst, op', ty, pos, after, guard⟩ := o
    simp only [chkOp] at hc
    split at hc
    · rename_i t q
      simp only [aop] at hr
      split at hr
      · rename_i cs hcl
        split at hr
        · cases hr
          obtain ⟨_, hf⟩ := (chkX_sound hc er).cl hcl
          have hn := r.newRow (f h.next (Nat.le_refl _) (Nat.lt_succ_self _)) hf t
          refine OpS.val (s := Instr.box t (a.eval q)) (x := .pointer (some ⟨w.heap.size, 0, none⟩)) ?_ (VC.ptr (Rho.add_same _ _ _ _)).e hn
          simp [Instr.box, newVar, newRow]
        · cases hr
      · cases hr
    · cases hc
  | build z qs =>
    obtain ⟨dst, op', ty, pos, after, guard⟩ := o
    simp only [chkOp] at hc
    split at hc
    · have hpu := pureh_some hr
      clear hr
      obtain ⟨hr, rfl⟩ := hpu
      simp only [Option.map_eq_some_iff] at hr
      obtain ⟨cs, hb, rfl⟩ := hr
      obtain ⟨x, h4, h5⟩ := build_sound (P := P) (w := w) er hc hb
      exact OpS.pur r h4 (VR.agg h5).e
    · cases hc
  | bsl esz len z qs =>
    obtain ⟨dst, op', ty, pos, after, guard⟩ := o
    simp only [chkOp] at hc
    split at hc
    · simp only [Bool.and_eq_true, decide_eq_true_eq] at hc
      obtain ⟨rfl, hc⟩ := hc
      simp only [aop] at hr
      split at hr
      · rename_i cs hb
        split at hr
        · rename_i hl
          cases hr
          obtain ⟨y, w', ρ', h4, h5, h6, h7⟩ := bsl_sound (P := P) r er (f h.next (Nat.le_refl _) (Nat.lt_succ_self _)) hc hb hl
          exact OpS.val h4 h5 ⟨h6, h7⟩
        · cases hr
      · cases hr
    · cases hc
  | ld sz y =>
    obtain ⟨dst, op', ty, pos, after, guard⟩ := o
    simp only [chkOp] at hc
    split at hc
    · simp only [Bool.and_eq_true] at hc
      obtain ⟨x, h4, h5, rfl⟩ := aload_sound (P := P) r hc.1 (chkX_sound hc.2 er) hr
      exact OpS.pur r h4 h5
    · cases hc
  | st sz y z =>
    obtain ⟨dst, op', ty, pos, after, guard⟩ := o
    simp only [chkOp] at hc
    split at hc
    · simp only [Bool.and_eq_true, decide_eq_true_eq] at hc
      obtain ⟨w', h4, rfl, h5, h6⟩ := astore_sound (P := P) r hc.1.1 (chkX_sound hc.1.2 er) (chkX_sound hc.2 er) hr
      exact OpS.unit h4 ⟨h5, h6⟩
    · cases hc
  | chk y =>
    obtain ⟨dst, op', ty, pos, after, guard⟩ := o
    simp only [chkOp] at hc
    split at hc
    · rename_i q
      have hpu := pureh_some hr
      clear hr
      obtain ⟨hr, rfl⟩ := hpu
      have hv := chkX_sound hc er
      unfold achk at hr
      split at hr
      · cases hr
      · cases hr
      · rename_i hb
        cases hr
        rw [hb] at hv
        obtain ⟨b, t, hid, hx⟩ := hv.ptr
        exact ⟨_, w, ρ, .inl (by simp only [execOp, hx]; rfl), (VC.ptr hid).e, r, .refl _ _ _⟩
      · rename_i hb
        cases hr
        rw [hb] at hv
        obtain ⟨g, f1, c1, h1, h2, h3, hx⟩ := hv.fn
        exact ⟨_, w, ρ, .inl (by simp only [execOp, hx]; rfl), (VC.fn h1 h2 h3).e, r, .refl _ _ _⟩
      · cases hr
    · cases hc
  | fa off y =>
    obtain ⟨dst, op', ty, pos, after, guard⟩ := o
    simp only [chkOp] at hc
    split at hc
    · simp only [Bool.and_eq_true] at hc
      have hpu := pureh_some hr
      clear hr
      obtain ⟨hr, rfl⟩ := hpu
      have hv := chkX_sound hc.2 er
      split at hr
      · rename_i hb
        cases hr
        rw [hb] at hv
        obtain ⟨x, h4, h5⟩ := fa_sound (P := P) (w := w) hc.1 hv
        exact OpS.pur r h4 h5
      · cases hr
    · cases hc
  | ia esz y i =>
    obtain ⟨dst, op', ty, pos, after, guard⟩ := o
    simp only [chkOp] at hc
    split at hc
    · simp only [Bool.and_eq_true] at hc
      have hpu := pureh_some hr
      clear hr
      obtain ⟨hr, rfl⟩ := hpu
      obtain ⟨x, h4, h5⟩ := aidx_sound (P := P) (w := w) hc.1.1 (chkX_sound hc.1.2 er) (chkX_sound hc.2 er) hr
      exact OpS.pur r h4 h5
    · cases hc
  | iaa n esz y i =>
    obtain ⟨dst, op', ty, pos, after, guard⟩ := o
    simp only [chkOp] at hc
    split at hc
    · simp only [Bool.and_eq_true] at hc
      have hpu := pureh_some hr
      clear hr
      obtain ⟨hr, rfl⟩ := hpu
      obtain ⟨x, h4, h5⟩ := aidxa_sound (P := P) (w := w) hc.1.1 (chkX_sound hc.1.2 er) (chkX_sound hc.2 er) hr
      exact OpS.pur r h4 h5
    · cases hc
  | ix n esz ag y i =>
    obtain ⟨dst, op', ty, pos, after, guard⟩ := o
    simp only [chkOp] at hc
    split at hc
    · simp only [Bool.and_eq_true] at hc
      have hpu := pureh_some hr
      clear hr
      obtain ⟨hr, rfl⟩ := hpu
      obtain ⟨x, h4, h5⟩ := aidxv_sound (P := P) (w := w) hc.1.1 (chkX_sound hc.1.2 er) (chkX_sound hc.2 er) hr
      exact OpS.pur r h4 h5
    · cases hc
  | ixs y i =>
    obtain ⟨dst, op', ty, pos, after, guard⟩ := o
    simp only [chkOp] at hc
    split at hc
    · simp only [Bool.and_eq_true] at hc
      have hpu := pureh_some hr
      clear hr
      obtain ⟨hr, rfl⟩ := hpu
      obtain ⟨⟨h1, h2⟩, h3⟩ := hc
      split at h1
      · obtain ⟨x, h4, h5⟩ := aidxs_sound (P := P) (w := w) (by assumption) (chkX_sound h2 er) (chkX_sound h3 er) hr
        exact OpS.pur r h4 h5
      · cases h1
    · cases hc
  | fld off sz y =>
    obtain ⟨dst, op', ty, pos, after, guard⟩ := o
    simp only [chkOp] at hc
    split at hc
    · simp only [Bool.and_eq_true] at hc
      have hpu := pureh_some hr
      clear hr
      obtain ⟨hr, rfl⟩ := hpu
      obtain ⟨x, h4, h5⟩ := fld_sound (P := P) (w := w) hc.1 (chkX_sound hc.2 er) hr
      exact OpS.pur r h4 h5
    · cases hc
  | ext n y =>
    obtain ⟨dst, op', ty, pos, after, guard⟩ := o
    simp only [chkOp] at hc
    split at hc
    · simp only [Bool.and_eq_true, decide_eq_true_eq] at hc
      obtain ⟨rfl, hc⟩ := hc
      have hpu := pureh_some hr
      clear hr
      obtain ⟨hr, rfl⟩ := hpu
      obtain ⟨x, h4, h5⟩ := aext_sound (P := P) (w := w) (chkX_sound hc er) hr
      exact OpS.pur r h4 h5
    · cases hc
  | slc esz y lo hi mx =>
    obtain ⟨dst, op', ty, pos, after, guard⟩ := o
    simp only [chkOp] at hc
    split at hc
    · rename_i t q l hh m
      simp only [Bool.and_eq_true] at hc
      obtain ⟨⟨⟨⟨⟨h1, h2⟩, h3⟩, h4⟩, h5⟩, h6⟩ := hc
      have hpu := pureh_some hr
      clear hr
      obtain ⟨hr, rfl⟩ := hpu
      obtain ⟨x, h7, h8⟩ := aslice_sound (P := P) (w := w) h1 (chkX_sound h2 er) (chkO_sound er h3) (chkO_sound er h4) (chkO_sound er h5) (fun hm => by cases m <;> cases hh <;> simp_all) hr
      exact OpS.pur r h7 h8
    · cases hc
  | sls y lo hi =>
    obtain ⟨dst, op', ty, pos, after, guard⟩ := o
    simp only [chkOp] at hc
    split at hc
    · rename_i t q l hh
      simp only [Bool.and_eq_true] at hc
      obtain ⟨⟨⟨h1, h2⟩, h3⟩, h4⟩ := hc
      have hpu := pureh_some hr
      clear hr
      obtain ⟨hr, rfl⟩ := hpu
      split at h1
      · obtain ⟨x, h7, h8⟩ := astrcut_sound (P := P) (w := w) (by assumption) (chkX_sound h2 er) (chkO_sound er h3) (chkO_sound er h4) hr
        exact OpS.pur r h7 h8
      · cases h1
    · cases hc
  | sla n esz y lo hi =>
    obtain ⟨dst, op', ty, pos, after, guard⟩ := o
    simp only [chkOp] at hc
    split at hc
    · rename_i t q l hh
      simp only [Bool.and_eq_true] at hc
      obtain ⟨⟨⟨h1, h2⟩, h3⟩, h4⟩ := hc
      have hpu := pureh_some hr
      clear hr
      obtain ⟨hr, rfl⟩ := hpu
      obtain ⟨x, h7, h8⟩ := aarrcut_sound (P := P) (w := w) h1 (chkX_sound h2 er) (chkO_sound er h3) (chkO_sound er h4) hr
      exact OpS.pur r h7 h8
    · cases hc
  | mks esz bytes z l c =>
    obtain ⟨dst, op', ty, pos, after, guard⟩ := o
    simp only [chkOp] at hc
    split at hc
    · simp only [Bool.and_eq_true] at hc
      obtain ⟨y, w', ρ', h4, h5, h6, h7⟩ := amake_sound (P := P) r hc.1.1 f (chkX_sound hc.1.2 er) (chkX_sound hc.2 er) hr
      exact OpS.val h4 h5 ⟨h6, h7⟩
    · cases hc
  | mkm =>
    obtain ⟨dst, op', ty, pos, after, guard⟩ := o
    simp only [chkOp] at hc
    split at hc
    · rename_i t
      simp only [aop, Option.some.injEq, Prod.mk.injEq] at hr
      obtain ⟨rfl, rfl⟩ := hr
      have hn := r.allocMap (f h.next (Nat.le_refl _) (Nat.lt_succ_self _))
      exact OpS.val (s := Instr.makeMap t none) (x := .map (some w.heap.size)) (by simp [Instr.makeMap]) (VC.mp (Rho.add_same _ _ _ _)).e hn
    · cases hc
  | lkp kk z ok m k =>
    obtain ⟨dst, op', ty, pos, after, guard⟩ := o
    simp only [chkOp] at hc
    split at hc
    · simp only [Bool.and_eq_true, decide_eq_true_eq] at hc
      obtain ⟨⟨⟨rfl, h1⟩, h2⟩, h3⟩ := hc
      obtain ⟨x, h4, h5, rfl⟩ := alookup_sound (P := P) r h1 (chkX_sound h2 er) (chkX_sound h3 er) hr
      exact OpS.pur r h4 h5
    · cases hc
  | mup kk m k v' =>
    obtain ⟨dst, op', ty, pos, after, guard⟩ := o
    simp only [chkOp] at hc
    simp only [aop] at hr
    split at hr
    · rename_i hcl
      obtain ⟨⟨c1, hc1⟩, ⟨c2, hc2⟩⟩ := And.imp Option.isSome_iff_exists.1 Option.isSome_iff_exists.1 hcl
      split at hc
      all_goals first
        | (simp only [Bool.and_eq_true] at hc
           obtain ⟨⟨⟨h1, h2⟩, h3⟩, h4⟩ := hc
           have e3 := chkX_sound h3 er
           have e4 := chkX_sound h4 er
           obtain ⟨w', h5, rfl, h6, h7⟩ := amapput_sound (P := P) r h1 (chkX_sound h2 er) e3 e4 (e3.cl hc1).1 (e4.cl hc2).1 hr
           exact OpS.unit h5 ⟨h6, h7⟩)
        | cases hc
    · cases hr
  | ment kk z m k =>
    obtain ⟨dst, op', ty, pos, after, guard⟩ := o
    simp only [chkOp] at hc
    simp only [aop] at hr
    split at hr
    · rename_i hcl
      obtain ⟨c1, hc1⟩ := Option.isSome_iff_exists.1 hcl
      split at hc
      · simp only [Bool.and_eq_true] at hc
        obtain ⟨⟨h1, h2⟩, h3⟩ := hc
        have e3 := chkX_sound h3 er
        obtain ⟨x, w', h5, h6, h7, h8⟩ := amapent_sound (P := P) r h1 (chkX_sound h2 er) e3 (e3.cl hc1).1 hr
        exact OpS.val h5 h6 ⟨h7, h8⟩
      · cases hc
    · cases hr
  | mst m s v' =>
    obtain ⟨dst, op', ty, pos, after, guard⟩ := o
    simp only [chkOp] at hc
    simp only [aop] at hr
    split at hr
    · rename_i hcl
      obtain ⟨c1, hc1⟩ := Option.isSome_iff_exists.1 hcl
      split at hc
      · rename_i t m' s' v''
        simp only [Bool.and_eq_true] at hc
        obtain ⟨⟨h1, h2⟩, h3⟩ := hc
        have e3 := chkX_sound h3 er
        obtain ⟨w', h5, rfl, h6, h7⟩ := amapst_sound (P := P) (t := t) r (chkX_sound h1 er) (chkX_sound h2 er) e3 (e3.cl hc1).1 hr
        exact OpS.unit h5 ⟨h6, h7⟩
      · cases hc
    · cases hr
  | mkf g first cap =>
    obtain ⟨dst, op', ty, pos, after, guard⟩ := o
    simp only [chkOp] at hc
    split at hc
    · simp only [Bool.and_eq_true, decide_eq_true_eq] at hc
      obtain ⟨⟨h1, h2⟩, h3⟩ := hc
      have hpu := pureh_some hr
      clear hr
      obtain ⟨hr, rfl⟩ := hpu
      split at hr
      · rename_i p q hp hq
        cases hr
        exact OpS.pur r (s := Instr.makeFunc _ _ _) rfl (VC.fn h1 (ptrs_sound (chkXs_sound er h2) hp) (ptrs_sound (chkXs_sound er h3) hq)).e
      · cases hr
    · cases hc
  | call g args => simp [aop] at hr
  | callv g args => simp [aop] at hr
  | len k y =>
    obtain ⟨dst, op', ty, pos, after, guard⟩ := o
    simp only [chkOp] at hc
    split at hc
    · rename_i as ts
      simp only [Bool.and_eq_true] at hc
      obtain ⟨o1, rfl, h2⟩ := args1 hc.2
      have hpu := pureh_some hr
      clear hr
      obtain ⟨hr, rfl⟩ := hpu
      obtain ⟨x, h4, h5⟩ := alen_sound (P := P) (ty := ty) r hc.1 (chkX_sound h2 er) hr
      exact OpS.pur r (s := Builtin.len_ ts ty (#[o1].map a.eval)) (by simpa using h4) h5
    · cases hc
  | app esz bytes s y =>
    obtain ⟨dst, op', ty, pos, after, guard⟩ := o
    simp only [chkOp] at hc
    split at hc
    · rename_i as ts
      simp only [Bool.and_eq_true] at hc
      obtain ⟨o1, o2, rfl, h2, h3⟩ := args2 hc.2
      obtain ⟨x, w', ρ', h4, h5, h6, h7⟩ := aapp_sound (P := P) (ty := ty) r hc.1 f (chkX_sound h2 er) (chkX_sound h3 er) hr
      exact OpS.val (s := Builtin.append_ ts ty (#[o1, o2].map a.eval)) (by simpa using h4) h5 ⟨h6, h7⟩
    · cases hc
  | cpy esz d s =>
    obtain ⟨dst, op', ty, pos, after, guard⟩ := o
    simp only [chkOp] at hc
    split at hc
    · rename_i as ts
      simp only [Bool.and_eq_true] at hc
      obtain ⟨o1, o2, rfl, h2, h3⟩ := args2 hc.2
      obtain ⟨x, w', h4, h5, h6, h7⟩ := acopy_sound (P := P) (ty := ty) r hc.1 (chkX_sound h2 er) (chkX_sound h3 er) hr
      exact OpS.val (s := Builtin.copy_ ts ty (#[o1, o2].map a.eval)) (by simpa using h4) h5 ⟨h6, h7⟩
    · cases hc
  | mn l =>
    obtain ⟨dst, op', ty, pos, after, guard⟩ := o
    simp only [chkOp] at hc
    split at hc
    · rename_i as ts
      have hpu := pureh_some hr
      clear hr
      obtain ⟨hr, rfl⟩ := hpu
      have hf := chkXs_sound er hc
      split at hr
      · rename_i u us hl
        rw [hl] at hf
        obtain ⟨x0, xs, hx, hu, hus⟩ := hf.head
        obtain ⟨x, h4, h5⟩ := amins_sound (P := P) (w := w) hu hus hr
        exact OpS.pur r (s := Builtin.min_ ts ty (as.map a.eval)) (by simp only [Builtin.min_, hx]; exact h4) h5
      · cases hr
    · cases hc
  | mx l =>
    obtain ⟨dst, op', ty, pos, after, guard⟩ := o
    simp only [chkOp] at hc
    split at hc
    · rename_i as ts
      have hpu := pureh_some hr
      clear hr
      obtain ⟨hr, rfl⟩ := hpu
      have hf := chkXs_sound er hc
      split at hr
      · rename_i u us hl
        rw [hl] at hf
        obtain ⟨x0, xs, hx, hu, hus⟩ := hf.head
        obtain ⟨x, h4, h5⟩ := amaxs_sound (P := P) (w := w) hu hus hr
        exact OpS.pur r (s := Builtin.max_ ts ty (as.map a.eval)) (by simp only [Builtin.max_, hx]; exact h4) h5
      · cases hr
    · cases hc
  | del kk m k =>
    obtain ⟨dst, op', ty, pos, after, guard⟩ := o
    simp only [chkOp] at hc
    split at hc
    · rename_i as ts
      simp only [Bool.and_eq_true] at hc
      obtain ⟨o1, o2, rfl, h2, h3⟩ := args2 hc.2
      obtain ⟨x, w', h4, h5, h6, h7⟩ := adel_sound (P := P) (ty := ty) r hc.1 (chkX_sound h2 er) (chkX_sound h3 er) hr
      exact OpS.val (s := Builtin.delete_ ts ty (#[o1, o2].map a.eval)) (by simpa using h4) h5 ⟨h6, h7⟩
    · cases hc
  | clr esz z y =>
    obtain ⟨dst, op', ty, pos, after, guard⟩ := o
    simp only [chkOp] at hc
    split at hc
    · rename_i as ts
      simp only [Bool.and_eq_true] at hc
      obtain ⟨o1, rfl, h2⟩ := args1 hc.2
      obtain ⟨x, w', h4, h5, h6, h7⟩ := aclear_sound (P := P) (ty := ty) r hc.1 (chkX_sound h2 er) hr
      exact OpS.val (s := Builtin.clear_ ts ty (#[o1].map a.eval)) (by simpa using h4) h5 ⟨h6, h7⟩
    · cases hc
end
end Go.Proofs.Ytpgoemmjhnnmoaa.Ab
