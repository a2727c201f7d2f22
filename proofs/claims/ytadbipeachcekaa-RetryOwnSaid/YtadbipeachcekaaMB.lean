/- The abstract machine: code, open orders, calls; a call is the model's. -/
import Derived.Test.YtadbipeachcekaaMA
import Derived.LoopN
import Derived.Scope
import Derived.Orders
/- The look at one operation, and that it does what the model's does. -/
namespace Go.Proofs.Ytadbipeachcekaa.Ab
open Go
set_option linter.unusedVariables false

/-- is the abstract operation this one of the model's? -/
def chkOp (P : Program) (lk : Lk) (o : Op) (x : AO) : Bool :=
  match x with
  | .mv y =>
    (match o with
     | .move q | .assign q => chkX lk q y
     | .call { callee := .builtin .len, args := as, argTypes := ts } =>
       decide (0 < as.size) &&
       (match ts.toList, y with
        | t :: _, .c (.i .i64 n) => (match P.underlying t with | some (.array m _) => decide ((m : Int) = n) | _ => false)
        | _, _ => false)
     | _ => false)
  | .pick c a b => (match o with | .pick c' a' b' => chkX lk c' c && chkX lk a' a && chkX lk b' b | _ => false)
  | .bin op y z => (match o with | .binOp op' _ y' z' _ => decide (op' = op) && chkX lk y' y && chkX lk z' z | _ => false)
  | .eq kd neg y z => (match o with | .binOp op' t y' z' _ => decide (op' = if neg then .neq else .eql) && eqK P t kd && chkX lk y' y && chkX lk z' z | _ => false)
  | .not y => (match o with | .unOp .not _ q => chkX lk q y | _ => false)
  | .neg y => (match o with | .unOp .neg _ q => chkX lk q y | _ => false)
  | .xor y => (match o with | .unOp .xor _ q => chkX lk q y | _ => false)
  | .toInt k y => (match o with | .convert s d q => (P.underlying s).isSome && (match P.underlying d with | some (.int k') => decide (k' = k) | _ => false) && chkX lk q y | _ => false)
  | .same y => (match o with | .convert s d q => (P.underlying s).isSome && (match P.underlying d with | some .string => true | _ => false) && chkX lk q y | _ => false)
  | .toStr y => (match o with | .convert s d q => (match P.underlying s with | some (.slice e) => (match P.underlying e with | some (.int .u8) => true | _ => false) | _ => false) && (match P.underlying d with | some .string => true | _ => false) && chkX lk q y | _ => false)
  | .toBytes y => (match o with | .convert s d q => (P.underlying s).isSome && (match P.underlying d with | some (.slice e) => (match P.underlying e with | some (.int .u8) => true | _ => false) | _ => false) && chkX lk q y | _ => false)
  | .mark y => (match o with | .convert s d q => decide (s = d) && (match P.underlying s with | some (.slice e) => (match P.underlying e with | some (.int .u8) => true | _ => false) | _ => false) && chkX lk q y | _ => false)
  | .runeStr y => (match o with | .convert s d q => (P.underlying s).isSome && (match P.underlying d with | some .string => true | _ => false) && chkX lk q y | _ => false)
  | .alloc z => (match o with | .alloc t => (match zT P t with | some v => chkZ v z | none => false) | _ => false)
  | .box sz y => (match o with | .box _ q => chkX lk q y | _ => false)
  | .build z qs => (match o with | .build t ps => buildK P lk t ps z qs | _ => false)
  | .bsl esz len z qs => (match o with | .buildSlice t n ps => decide (n = len) && bslK P lk t n ps esz z qs | _ => false)
  | .ld sz y => (match o with | .load t q => ldK P t sz && chkX lk q y | _ => false)
  | .st sz y z => (match o with | .store t q r => decide (szT P t = some sz) && chkX lk q y && chkX lk r z | _ => false)
  | .chk y => (match o with | .nilCheck q => chkX lk q y | _ => false)
  | .fa off y => (match o with | .fieldAddr t q f => faK P t f off && chkX lk q y | _ => false)
  | .ia esz y i => (match o with | .indexAddr t q j => elK P t esz && chkX lk q y && chkX lk j i | _ => false)
  | .iaa n esz y i => (match o with | .indexAddr t q j => arK P t n esz && chkX lk q y && chkX lk j i | _ => false)
  | .ix n esz ag y i => (match o with | .index t q j => ixK P t n esz ag && chkX lk q y && chkX lk j i | _ => false)
  | .ixs y i => (match o with | .index t q j => (match P.underlying t with | some .string => true | _ => false) && chkX lk q y && chkX lk j i | _ => false)
  | .fld off sz y => (match o with | .field t q f => fldK P t f off sz && chkX lk q y | _ => false)
  | .ext n y => (match o with | .extract q m => decide (m = n) && chkX lk q y | _ => false)
  | .slc esz y lo hi mx => (match o with | .slice t q l h m => elK P t esz && chkX lk q y && chkO lk l lo && chkO lk h hi && chkO lk m mx && (m.isNone || h.isSome) | _ => false)
  | .sls y lo hi => (match o with | .slice t q l h none => (match P.underlying t with | some .string => true | _ => false) && chkX lk q y && chkO lk l lo && chkO lk h hi | _ => false)
  | .sla n esz y lo hi => (match o with | .slice t q l h none => arK P t n esz && chkX lk q y && chkO lk l lo && chkO lk h hi | _ => false)
  | .mks esz bytes z l c => (match o with | .makeSlice t l' c' => mksK P t esz bytes z && chkX lk l' l && chkX lk c' c | _ => false)
  | .mkm => (match o with | .makeMap _ none => true | _ => false)
  | .lkp kk z ok m k => (match o with | .lookup t m' k' ok' => decide (ok' = ok) && lkpK P t kk z && chkX lk m' m && chkX lk k' k | _ => false)
  | .mup kk m k v => (match o with | .mapUpdate t m' k' v' | .insert t m' k' v' => mapK P t kk && chkX lk m' m && chkX lk k' k && chkX lk v' v | _ => false)
  | .ment kk z m k => (match o with | .mapEntry t m' k' => lkpK P t kk z && chkX lk m' m && chkX lk k' k | _ => false)
  | .mst m s v => (match o with | .entryStore _ m' s' v' => chkX lk m' m && chkX lk s' s && chkX lk v' v | _ => false)
  | .mkf f first cap => (match o with | .makeFunc (.func g) first' cap' => decide (lk f = some g) && all2 (chkX lk) first'.toList first && all2 (chkX lk) cap'.toList cap | _ => false)
  | .call f args => (match o with | .call { callee := .value (.func g), args := as, argTypes := _ } => decide (lk f = some g) && all2 (chkX lk) as.toList args | _ => false)
  | .callv f args => (match o with | .call { callee := .value q, args := as, argTypes := _ } => chkX lk q f && all2 (chkX lk) as.toList args | _ => false)
  | .len k y => (match o with | .call { callee := .builtin .len, args := as, argTypes := ts } => lenK P ts k && all2 (chkX lk) as.toList [y] | _ => false)
  | .app esz bytes s y => (match o with | .call { callee := .builtin .append, args := as, argTypes := ts } => appK P ts esz bytes && all2 (chkX lk) as.toList [s, y] | _ => false)
  | .cpy esz d s => (match o with | .call { callee := .builtin .copy, args := as, argTypes := ts } => cpyK P ts esz && all2 (chkX lk) as.toList [d, s] | _ => false)
  | .mn l => (match o with | .call { callee := .builtin .min, args := as, argTypes := _ } => all2 (chkX lk) as.toList l | _ => false)
  | .mx l => (match o with | .call { callee := .builtin .max, args := as, argTypes := _ } => all2 (chkX lk) as.toList l | _ => false)
  | .del kk m k => (match o with | .call { callee := .builtin .delete, args := as, argTypes := ts } => delK P ts kk && all2 (chkX lk) as.toList [m, k] | _ => false)
  | .clr esz z y => (match o with | .call { callee := .builtin .clear, args := as, argTypes := ts } => clrK P ts esz z && all2 (chkX lk) as.toList [y] | _ => false)

section
variable {P : Program} {lk : Lk} {ρ : Rho} {h : AH} {w : World} {nt : Nat} {e : Env} {a : Act}
theorem chkXs_sound (er : ER lk ρ nt e a) {os : Array Operand} {xs : List AX} (h : all2 (chkX lk) os.toList xs = true) : F2 (VE lk ρ) (xs.map (ev e)) (os.map a.eval).toList := by
  have := all2_sound (R := fun y x => VE lk ρ (ev e y) (a.eval x)) (fun x y h => chkX_sound h er) h
  rw [Array.toList_map]
  generalize os.toList = l at this
  clear h
  induction xs generalizing l with
  | nil => cases l with | nil => trivial | cons => exact this.elim
  | cons y ys ih => cases l with | nil => exact this.elim | cons o l => exact ⟨this.1, ih l this.2⟩
theorem chkO_sound (er : ER lk ρ nt e a) {o : Option Operand} {x : Option AX} (h : chkO lk o x = true) : VEO lk ρ (x.map (ev e)) (o.map a.eval) := by
  cases o <;> cases x <;> simp [chkO] at h
  · trivial
  · exact chkX_sound h er
theorem args1 {os : Array Operand} {x : AX} (h : all2 (chkX lk) os.toList [x] = true) : ∃ o, os = #[o] ∧ chkX lk o x = true := by
  cases hl : os.toList with
  | nil => simp [hl, all2] at h
  | cons o l =>
    cases l with
    | nil => simp only [hl, all2, Bool.and_true] at h; exact ⟨o, by rw [← Array.toArray_toList (xs := os), hl], h⟩
    | cons => simp [hl, all2] at h
theorem args2 {os : Array Operand} {x y : AX} (h : all2 (chkX lk) os.toList [x, y] = true) : ∃ o q, os = #[o, q] ∧ chkX lk o x = true ∧ chkX lk q y = true := by
  cases hl : os.toList with
  | nil => simp [hl, all2] at h
  | cons o l =>
    cases l with
    | nil => simp [hl, all2] at h
    | cons q l =>
      cases l with
      | nil => simp only [hl, all2, Bool.and_true, Bool.and_eq_true] at h; exact ⟨o, q, by rw [← Array.toArray_toList (xs := os), hl], h.1, h.2⟩
      | cons => simp [hl, all2] at h

theorem mv_sound (r : Rel lk ρ h w) (er : ER lk ρ nt e a) {o : Oper} {y : AX} (hc : chkOp P lk o.op (.mv y) = true) : OpS lk ρ h w ((execOp a.eval o).run P w) (ev e y) h := by
  obtain ⟨dst, op, ty, pos, after, guard⟩ := o
  simp only [chkOp] at hc
  split at hc
  · exact ⟨_, w, ρ, .inl rfl, chkX_sound hc er, r, .refl _ _ _⟩
  · exact ⟨_, w, ρ, .inl rfl, chkX_sound hc er, r, .refl _ _ _⟩
  · rename_i as ts
    simp only [Bool.and_eq_true, decide_eq_true_eq] at hc
    obtain ⟨hn, hc⟩ := hc
    split at hc
    · rename_i t tr n hts
      have ht0 : ts[0]? = some t := by rw [← Array.getElem?_toList, hts]; rfl
      cases hd : P.underlying t with
      | none => simp [hd] at hc
      | some d =>
        cases d with
        | array m el =>
          simp only [hd, decide_eq_true_eq] at hc
          subst hc
          have ha0 : (as.map a.eval)[0]? = some (a.eval as[0]) := by simp [hn]
          refine OpS.pur (s := Builtin.len_ ts ty (as.map a.eval)) r (x := .int .i64 m) ?_ (VC.i _ _).e
          simp only [Builtin.len_, ht0, ha0, Sem.run_bind, run_underlying hd, Result.andThen_ok]
          rfl
        | _ => simp [hd] at hc
    · cases hc
  · cases hc

theorem aop_sound (r : Rel lk ρ h w) (er : ER lk ρ nt e a) {o : Oper} {x : AO} {v : AV} {h' : AH} (hc : chkOp P lk o.op x = true) (hr : aop x e h = some (v, h')) (f : Free ρ h.next h'.next) :
    OpS lk ρ h w ((execOp a.eval o).run P w) v h' := by
  cases x with
  | mv y =>
    simp only [aop, Option.some.injEq, Prod.mk.injEq] at hr
    obtain ⟨rfl, rfl⟩ := hr
    exact mv_sound r er hc
  | pick c p q =>
    obtain ⟨dst, op, ty, pos, after, guard⟩ := o
    simp only [chkOp] at hc
    split at hc
    · simp only [Bool.and_eq_true] at hc
      obtain ⟨⟨h1, h2⟩, h3⟩ := hc
      have hcv := chkX_sound h1 er
      simp only [aop] at hr
      split at hr
      · rename_i hb
        cases hr
        rw [hb] at hcv
        exact ⟨_, w, ρ, .inl (by simp [execOp, hcv.b, asBool]), chkX_sound h2 er, r, .refl _ _ _⟩
      · rename_i hb
        cases hr
        rw [hb] at hcv
        exact ⟨_, w, ρ, .inl (by simp [execOp, hcv.b, asBool]), chkX_sound h3 er, r, .refl _ _ _⟩
      · cases hr
    · cases hc
  | bin op p q =>
    obtain ⟨dst, op', ty, pos, after, guard⟩ := o
    simp only [chkOp] at hc
    split at hc
    · simp only [Bool.and_eq_true, decide_eq_true_eq] at hc
      obtain ⟨⟨rfl, h2⟩, h3⟩ := hc
      have hpu := pureh_some hr
      clear hr
      obtain ⟨hr, rfl⟩ := hpu
      obtain ⟨z, h4, h5⟩ := abin_sound (P := P) (w := w) (chkX_sound h2 er) (chkX_sound h3 er) hr
      exact OpS.pur r h4 h5
    · cases hc
  | eq kd neg p q =>
    obtain ⟨dst, op', ty, pos, after, guard⟩ := o
    simp only [chkOp] at hc
    split at hc
    · simp only [Bool.and_eq_true, decide_eq_true_eq] at hc
      obtain ⟨⟨⟨h0, h1⟩, h2⟩, h3⟩ := hc
      have hpu := pureh_some hr
      clear hr
      obtain ⟨hr, rfl⟩ := hpu
      simp only [Option.map_eq_some_iff] at hr
      obtain ⟨b, hb, rfl⟩ := hr
      exact OpS.pur r (aeq_sound (P := P) (w := w) h0 h1 (chkX_sound h2 er) (chkX_sound h3 er) hb) (VC.b _).e
    · cases hc
  | not y =>
    obtain ⟨dst, op', ty, pos, after, guard⟩ := o
    simp only [chkOp] at hc
    split at hc
    · have hpu := pureh_some hr
      clear hr
      obtain ⟨hr, rfl⟩ := hpu
      have hv := chkX_sound hc er
      split at hr
      · rename_i b hb
        cases hr
        rw [hb] at hv
        exact OpS.pur r (s := Op.unary .not _) (x := .bool (!b)) (by rw [hv.b]; rfl) (VC.b _).e
      · cases hr
    · cases hc
  | neg y =>
    obtain ⟨dst, op', ty, pos, after, guard⟩ := o
    simp only [chkOp] at hc
    split at hc
    · have hpu := pureh_some hr
      clear hr
      obtain ⟨hr, rfl⟩ := hpu
      have hv := chkX_sound hc er
      split at hr
      · rename_i k n hb
        cases hr
        rw [hb] at hv
        exact OpS.pur r (s := Op.unary .neg _) (x := .int k (k.wrap (0 - n))) (by rw [hv.i]; rfl) (VC.i _ _).e
      · cases hr
    · cases hc
  | xor y =>
    obtain ⟨dst, op', ty, pos, after, guard⟩ := o
    simp only [chkOp] at hc
    split at hc
    · have hpu := pureh_some hr
      clear hr
      obtain ⟨hr, rfl⟩ := hpu
      have hv := chkX_sound hc er
      split at hr
      · rename_i k n hb
        cases hr
        rw [hb] at hv
        exact OpS.pur r (s := Op.unary .xor _) (by rw [hv.i]; rfl) (VC.i _ _).e
      · cases hr
    · cases hc
  | toInt k y =>
    obtain ⟨dst, op', ty, pos, after, guard⟩ := o
    simp only [chkOp] at hc
    split at hc
    · rename_i s d q
      simp only [Bool.and_eq_true] at hc
      obtain ⟨⟨h1, h2⟩, h3⟩ := hc
      obtain ⟨sd, hs⟩ := Option.isSome_iff_exists.1 h1
      have hpu := pureh_some hr
      clear hr
      obtain ⟨hr, rfl⟩ := hpu
      have hv := chkX_sound h3 er
      split at h2
      · rename_i k' hd
        have := of_decide_eq_true h2
        subst this
        split at hr
        · rename_i k0 n hb
          cases hr
          rw [hb] at hv
          exact OpS.pur r (toInt_sound hs hd hv) (VC.i _ _).e
        · cases hr
      · cases h2
    · cases hc
  | same y =>
    obtain ⟨dst, op', ty, pos, after, guard⟩ := o
    simp only [chkOp] at hc
    split at hc
    · rename_i s d q
      simp only [Bool.and_eq_true] at hc
      obtain ⟨⟨h1, h2⟩, h3⟩ := hc
      obtain ⟨sd, hs⟩ := Option.isSome_iff_exists.1 h1
      have hpu := pureh_some hr
      clear hr
      obtain ⟨hr, rfl⟩ := hpu
      have hv := chkX_sound h3 er
      split at h2
      · rename_i hd
        split at hr
        · rename_i l hb
          cases hr
          rw [hb] at hv
          exact OpS.pur r (same_sound hs hd hv) hv
        · cases hr
      · cases h2
    · cases hc
  | toStr y =>
    obtain ⟨dst, op', ty, pos, after, guard⟩ := o
    simp only [chkOp] at hc
    split at hc
    · rename_i s d q
      simp only [Bool.and_eq_true] at hc
      obtain ⟨⟨h1, h2⟩, h3⟩ := hc
      have hv := chkX_sound h3 er
      split at h1
      · rename_i el hs
        split at h1
        · rename_i he
          split at h2
          · rename_i hd
            simp only [aop] at hr
            split at hr
            · rename_i n cs hsh
              have hpu := pureh_some hr
              clear hr
              obtain ⟨hr, rfl⟩ := hpu
              simp only [Option.map_eq_some_iff] at hr
              obtain ⟨l, hb, rfl⟩ := hr
              obtain ⟨z, h4, h5⟩ := toStr_sound (P := P) r hs he hd hv hsh hb
              exact OpS.pur r h4 h5
            · cases hr
          · cases h2
        · cases h1
      · cases h1
    · cases hc
  | toBytes y =>
    obtain ⟨dst, op', ty, pos, after, guard⟩ := o
    simp only [chkOp] at hc
    split at hc
    · rename_i s d q
      simp only [Bool.and_eq_true] at hc
      obtain ⟨⟨h1, h2⟩, h3⟩ := hc
      obtain ⟨sd, hs⟩ := Option.isSome_iff_exists.1 h1
      have hv := chkX_sound h3 er
      split at h2
      · rename_i el hd
        split at h2
        · rename_i he
          simp only [aop] at hr
          split at hr
          · rename_i l hb
            split at hr
            · cases hr
              rw [hb] at hv
              obtain ⟨z, w', ρ', h4, h5, h6, h7⟩ := toBytes_sound (P := P) r (f h.next (Nat.le_refl _) (Nat.lt_succ_self _)) hs hd he hv
              exact OpS.val h4 h5 ⟨h6, h7⟩
            · cases hr
          · cases hr
        · cases h2
      · cases h2
    · cases hc
  | mark y =>
    obtain ⟨dst, op', ty, pos, after, guard⟩ := o
    simp only [chkOp] at hc
    split at hc
    · rename_i s d q
      simp only [Bool.and_eq_true, decide_eq_true_eq] at hc
      obtain ⟨⟨rfl, h2⟩, h3⟩ := hc
      have hv := chkX_sound h3 er
      split at h2
      · rename_i el hd
        split at h2
        · rename_i he
          simp only [aop] at hr
          split at hr
          · rename_i id off len cap lo hy
            split at hr
            · rename_i cs hb
              cases hr
              rw [hy] at hv
              obtain ⟨w', h4, h5, h6⟩ := mark_sound (P := P) r hd he hv hb
              exact OpS.val h4 hv ⟨h5, h6⟩
            · cases hr
          · cases hr
        · cases h2
      · cases h2
    · cases hc
  | runeStr y =>
    obtain ⟨dst, op', ty, pos, after, guard⟩ := o
    simp only [chkOp] at hc
    split at hc
    · rename_i s d q
      simp only [Bool.and_eq_true] at hc
      obtain ⟨⟨h1, h2⟩, h3⟩ := hc
      obtain ⟨sd, hs⟩ := Option.isSome_iff_exists.1 h1
      have hpu := pureh_some hr
      clear hr
      obtain ⟨hr, rfl⟩ := hpu
      have hv := chkX_sound h3 er
      split at h2
      · rename_i hd
        split at hr
        · rename_i k n hb
          split at hr
          · rename_i hn
            cases hr
            rw [hb] at hv
            obtain ⟨z, h4, h5⟩ := runeStr_sound (P := P) (w := w) hs hd hn hv
            exact OpS.pur r h4 h5
          · cases hr
        · cases hr
      · cases h2
    · cases hc
  | alloc z =>
    obtain ⟨dst, op', ty, pos, after, guard⟩ := o
    simp only [chkOp] at hc
    split at hc
    · rename_i t
      cases hz : zT P t with
      | none => simp [hz] at hc
      | some zv =>
        simp only [hz] at hc
        simp only [aop, Option.some.injEq, Prod.mk.injEq] at hr
        obtain ⟨rfl, rfl⟩ := hr
        have hn := r.newRow (f h.next (Nat.le_refl _) (Nat.lt_succ_self _)) (all2_sound (fun _ _ => chkV_sound) hc) t
        refine OpS.val (s := Instr.alloc t true (.tuple #[])) (x := .pointer (some ⟨w.heap.size, 0, none⟩)) ?_ (VC.ptr (Rho.add_same _ _ _ _)).e hn
        simp [Instr.alloc, run_zT hz, newVar, newRow]
    · cases hc
  | box sz y =>
    obtain ⟨dst, op', ty, pos, after, guard⟩ := o
    simp only [chkOp] at hc
    split at hc
    · rename_i t q
      simp only [aop] at hr
      split at hr
      · rename_i cs hcl
        split at hr
        · cases hr
          obtain ⟨_, hf⟩ := (chkX_sound hc er).cl hcl
          have hn := r.newRow (f h.next (Nat.le_refl _) (Nat.lt_succ_self _)) hf t
          refine OpS.val (s := Instr.box t (a.eval q)) (x := .pointer (some ⟨w.heap.size, 0, none⟩)) ?_ (VC.ptr (Rho.add_same _ _ _ _)).e hn
          simp [Instr.box, newVar, newRow]
        · cases hr
      · cases hr
    · cases hc
  | build z qs =>
    obtain ⟨dst, op', ty, pos, after, guard⟩ := o
    simp only [chkOp] at hc
    split at hc
    · have hpu := pureh_some hr
      clear hr
      obtain ⟨hr, rfl⟩ := hpu
      simp only [Option.map_eq_some_iff] at hr
      obtain ⟨cs, hb, rfl⟩ := hr
      obtain ⟨x, h4, h5⟩ := build_sound (P := P) (w := w) er hc hb
      exact OpS.pur r h4 (VR.agg h5).e
    · cases hc
  | bsl esz len z qs =>
    obtain ⟨dst, op', ty, pos, after, guard⟩ := o
    simp only [chkOp] at hc
    split at hc
    · simp only [Bool.and_eq_true, decide_eq_true_eq] at hc
      obtain ⟨rfl, hc⟩ := hc
      simp only [aop] at hr
      split at hr
      · rename_i cs hb
        split at hr
        · rename_i hl
          cases hr
          obtain ⟨y, w', ρ', h4, h5, h6, h7⟩ := bsl_sound (P := P) r er (f h.next (Nat.le_refl _) (Nat.lt_succ_self _)) hc hb hl
          exact OpS.val h4 h5 ⟨h6, h7⟩
        · cases hr
      · cases hr
    · cases hc
  | ld sz y =>
    obtain ⟨dst, op', ty, pos, after, guard⟩ := o
    simp only [chkOp] at hc
    split at hc
    · simp only [Bool.and_eq_true] at hc
      obtain ⟨x, h4, h5, rfl⟩ := aload_sound (P := P) r hc.1 (chkX_sound hc.2 er) hr
      exact OpS.pur r h4 h5
    · cases hc
  | st sz y z =>
    obtain ⟨dst, op', ty, pos, after, guard⟩ := o
    simp only [chkOp] at hc
    split at hc
    · simp only [Bool.and_eq_true, decide_eq_true_eq] at hc
      obtain ⟨w', h4, rfl, h5, h6⟩ := astore_sound (P := P) r hc.1.1 (chkX_sound hc.1.2 er) (chkX_sound hc.2 er) hr
      exact OpS.unit h4 ⟨h5, h6⟩
    · cases hc
  | chk y =>
    obtain ⟨dst, op', ty, pos, after, guard⟩ := o
    simp only [chkOp] at hc
    split at hc
    · rename_i q
      have hpu := pureh_some hr
      clear hr
      obtain ⟨hr, rfl⟩ := hpu
      have hv := chkX_sound hc er
      unfold achk at hr
      split at hr
      · cases hr
      · cases hr
      · rename_i hb
        cases hr
        rw [hb] at hv
        obtain ⟨b, t, hid, hx⟩ := hv.ptr
        exact ⟨_, w, ρ, .inl (by simp only [execOp, hx]; rfl), (VC.ptr hid).e, r, .refl _ _ _⟩
      · rename_i hb
        cases hr
        rw [hb] at hv
        obtain ⟨g, f1, c1, h1, h2, h3, hx⟩ := hv.fn
        exact ⟨_, w, ρ, .inl (by simp only [execOp, hx]; rfl), (VC.fn h1 h2 h3).e, r, .refl _ _ _⟩
      · cases hr
    · cases hc
  | fa off y =>
    obtain ⟨dst, op', ty, pos, after, guard⟩ := o
    simp only [chkOp] at hc
    split at hc
    · simp only [Bool.and_eq_true] at hc
      have hpu := pureh_some hr
      clear hr
      obtain ⟨hr, rfl⟩ := hpu
      have hv := chkX_sound hc.2 er
      split at hr
      · rename_i hb
        cases hr
        rw [hb] at hv
        obtain ⟨x, h4, h5⟩ := fa_sound (P := P) (w := w) hc.1 hv
        exact OpS.pur r h4 h5
      · cases hr
    · cases hc
  | ia esz y i =>
    obtain ⟨dst, op', ty, pos, after, guard⟩ := o
    simp only [chkOp] at hc
    split at hc
    · simp only [Bool.and_eq_true] at hc
      have hpu := pureh_some hr
      clear hr
      obtain ⟨hr, rfl⟩ := hpu
      obtain ⟨x, h4, h5⟩ := aidx_sound (P := P) (w := w) hc.1.1 (chkX_sound hc.1.2 er) (chkX_sound hc.2 er) hr
      exact OpS.pur r h4 h5
    · cases hc
  | iaa n esz y i =>
    obtain ⟨dst, op', ty, pos, after, guard⟩ := o
    simp only [chkOp] at hc
    split at hc
    · simp only [Bool.and_eq_true] at hc
      have hpu := pureh_some hr
      clear hr
      obtain ⟨hr, rfl⟩ := hpu
      obtain ⟨x, h4, h5⟩ := aidxa_sound (P := P) (w := w) hc.1.1 (chkX_sound hc.1.2 er) (chkX_sound hc.2 er) hr
      exact OpS.pur r h4 h5
    · cases hc
  | ix n esz ag y i =>
    obtain ⟨dst, op', ty, pos, after, guard⟩ := o
    simp only [chkOp] at hc
    split at hc
    · simp only [Bool.and_eq_true] at hc
      have hpu := pureh_some hr
      clear hr
      obtain ⟨hr, rfl⟩ := hpu
      obtain ⟨x, h4, h5⟩ := aidxv_sound (P := P) (w := w) hc.1.1 (chkX_sound hc.1.2 er) (chkX_sound hc.2 er) hr
      exact OpS.pur r h4 h5
    · cases hc
  | ixs y i =>
    obtain ⟨dst, op', ty, pos, after, guard⟩ := o
    simp only [chkOp] at hc
    split at hc
    · simp only [Bool.and_eq_true] at hc
      have hpu := pureh_some hr
      clear hr
      obtain ⟨hr, rfl⟩ := hpu
      obtain ⟨⟨h1, h2⟩, h3⟩ := hc
      split at h1
      · obtain ⟨x, h4, h5⟩ := aidxs_sound (P := P) (w := w) (by assumption) (chkX_sound h2 er) (chkX_sound h3 er) hr
        exact OpS.pur r h4 h5
      · cases h1
    · cases hc
  | fld off sz y =>
    obtain ⟨dst, op', ty, pos, after, guard⟩ := o
    simp only [chkOp] at hc
    split at hc
    · simp only [Bool.and_eq_true] at hc
      have hpu := pureh_some hr
      clear hr
      obtain ⟨hr, rfl⟩ := hpu
      obtain ⟨x, h4, h5⟩ := fld_sound (P := P) (w := w) hc.1 (chkX_sound hc.2 er) hr
      exact OpS.pur r h4 h5
    · cases hc
  | ext n y =>
    obtain ⟨dst, op', ty, pos, after, guard⟩ := o
    simp only [chkOp] at hc
    split at hc
    · simp only [Bool.and_eq_true, decide_eq_true_eq] at hc
      obtain ⟨rfl, hc⟩ := hc
      have hpu := pureh_some hr
      clear hr
      obtain ⟨hr, rfl⟩ := hpu
      obtain ⟨x, h4, h5⟩ := aext_sound (P := P) (w := w) (chkX_sound hc er) hr
      exact OpS.pur r h4 h5
    · cases hc
  | slc esz y lo hi mx =>
    obtain ⟨dst, op', ty, pos, after, guard⟩ := o
    simp only [chkOp] at hc
    split at hc
    · rename_i t q l hh m
      simp only [Bool.and_eq_true] at hc
      obtain ⟨⟨⟨⟨⟨h1, h2⟩, h3⟩, h4⟩, h5⟩, h6⟩ := hc
      have hpu := pureh_some hr
      clear hr
      obtain ⟨hr, rfl⟩ := hpu
      obtain ⟨x, h7, h8⟩ := aslice_sound (P := P) (w := w) h1 (chkX_sound h2 er) (chkO_sound er h3) (chkO_sound er h4) (chkO_sound er h5) (fun hm => by cases m <;> cases hh <;> simp_all) hr
      exact OpS.pur r h7 h8
    · cases hc
  | sls y lo hi =>
    obtain ⟨dst, op', ty, pos, after, guard⟩ := o
    simp only [chkOp] at hc
    split at hc
    · rename_i t q l hh
      simp only [Bool.and_eq_true] at hc
      obtain ⟨⟨⟨h1, h2⟩, h3⟩, h4⟩ := hc
      have hpu := pureh_some hr
      clear hr
      obtain ⟨hr, rfl⟩ := hpu
      split at h1
      · obtain ⟨x, h7, h8⟩ := astrcut_sound (P := P) (w := w) (by assumption) (chkX_sound h2 er) (chkO_sound er h3) (chkO_sound er h4) hr
        exact OpS.pur r h7 h8
      · cases h1
    · cases hc
  | sla n esz y lo hi =>
    obtain ⟨dst, op', ty, pos, after, guard⟩ := o
    simp only [chkOp] at hc
    split at hc
    · rename_i t q l hh
      simp only [Bool.and_eq_true] at hc
      obtain ⟨⟨⟨h1, h2⟩, h3⟩, h4⟩ := hc
      have hpu := pureh_some hr
      clear hr
      obtain ⟨hr, rfl⟩ := hpu
      obtain ⟨x, h7, h8⟩ := aarrcut_sound (P := P) (w := w) h1 (chkX_sound h2 er) (chkO_sound er h3) (chkO_sound er h4) hr
      exact OpS.pur r h7 h8
    · cases hc
  | mks esz bytes z l c =>
    obtain ⟨dst, op', ty, pos, after, guard⟩ := o
    simp only [chkOp] at hc
    split at hc
    · simp only [Bool.and_eq_true] at hc
      obtain ⟨y, w', ρ', h4, h5, h6, h7⟩ := amake_sound (P := P) r hc.1.1 f (chkX_sound hc.1.2 er) (chkX_sound hc.2 er) hr
      exact OpS.val h4 h5 ⟨h6, h7⟩
    · cases hc
  | mkm =>
    obtain ⟨dst, op', ty, pos, after, guard⟩ := o
    simp only [chkOp] at hc
    split at hc
    · rename_i t
      simp only [aop, Option.some.injEq, Prod.mk.injEq] at hr
      obtain ⟨rfl, rfl⟩ := hr
      have hn := r.allocMap (f h.next (Nat.le_refl _) (Nat.lt_succ_self _))
      exact OpS.val (s := Instr.makeMap t none) (x := .map (some w.heap.size)) (by simp [Instr.makeMap]) (VC.mp (Rho.add_same _ _ _ _)).e hn
    · cases hc
  | lkp kk z ok m k =>
    obtain ⟨dst, op', ty, pos, after, guard⟩ := o
    simp only [chkOp] at hc
    split at hc
    · simp only [Bool.and_eq_true, decide_eq_true_eq] at hc
      obtain ⟨⟨⟨rfl, h1⟩, h2⟩, h3⟩ := hc
      obtain ⟨x, h4, h5, rfl⟩ := alookup_sound (P := P) r h1 (chkX_sound h2 er) (chkX_sound h3 er) hr
      exact OpS.pur r h4 h5
    · cases hc
  | mup kk m k v' =>
    obtain ⟨dst, op', ty, pos, after, guard⟩ := o
    simp only [chkOp] at hc
    simp only [aop] at hr
    split at hr
    · rename_i hcl
      obtain ⟨⟨c1, hc1⟩, ⟨c2, hc2⟩⟩ := And.imp Option.isSome_iff_exists.1 Option.isSome_iff_exists.1 hcl
      split at hc
      all_goals first
        | (simp only [Bool.and_eq_true] at hc
           obtain ⟨⟨⟨h1, h2⟩, h3⟩, h4⟩ := hc
           have e3 := chkX_sound h3 er
           have e4 := chkX_sound h4 er
           obtain ⟨w', h5, rfl, h6, h7⟩ := amapput_sound (P := P) r h1 (chkX_sound h2 er) e3 e4 (e3.cl hc1).1 (e4.cl hc2).1 hr
           exact OpS.unit h5 ⟨h6, h7⟩)
        | cases hc
    · cases hr
  | ment kk z m k =>
    obtain ⟨dst, op', ty, pos, after, guard⟩ := o
    simp only [chkOp] at hc
    simp only [aop] at hr
    split at hr
    · rename_i hcl
      obtain ⟨c1, hc1⟩ := Option.isSome_iff_exists.1 hcl
      split at hc
      · simp only [Bool.and_eq_true] at hc
        obtain ⟨⟨h1, h2⟩, h3⟩ := hc
        have e3 := chkX_sound h3 er
        obtain ⟨x, w', h5, h6, h7, h8⟩ := amapent_sound (P := P) r h1 (chkX_sound h2 er) e3 (e3.cl hc1).1 hr
        exact OpS.val h5 h6 ⟨h7, h8⟩
      · cases hc
    · cases hr
  | mst m s v' =>
    obtain ⟨dst, op', ty, pos, after, guard⟩ := o
    simp only [chkOp] at hc
    simp only [aop] at hr
    split at hr
    · rename_i hcl
      obtain ⟨c1, hc1⟩ := Option.isSome_iff_exists.1 hcl
      split at hc
      · rename_i t m' s' v''
        simp only [Bool.and_eq_true] at hc
        obtain ⟨⟨h1, h2⟩, h3⟩ := hc
        have e3 := chkX_sound h3 er
        obtain ⟨w', h5, rfl, h6, h7⟩ := amapst_sound (P := P) (t := t) r (chkX_sound h1 er) (chkX_sound h2 er) e3 (e3.cl hc1).1 hr
        exact OpS.unit h5 ⟨h6, h7⟩
      · cases hc
    · cases hr
  | mkf g first cap =>
    obtain ⟨dst, op', ty, pos, after, guard⟩ := o
    simp only [chkOp] at hc
    split at hc
    · simp only [Bool.and_eq_true, decide_eq_true_eq] at hc
      obtain ⟨⟨h1, h2⟩, h3⟩ := hc
      have hpu := pureh_some hr
      clear hr
      obtain ⟨hr, rfl⟩ := hpu
      split at hr
      · rename_i p q hp hq
        cases hr
        exact OpS.pur r (s := Instr.makeFunc _ _ _) rfl (VC.fn h1 (ptrs_sound (chkXs_sound er h2) hp) (ptrs_sound (chkXs_sound er h3) hq)).e
      · cases hr
    · cases hc
  | call g args => simp [aop] at hr
  | callv g args => simp [aop] at hr
  | len k y =>
    obtain ⟨dst, op', ty, pos, after, guard⟩ := o
    simp only [chkOp] at hc
    split at hc
    · rename_i as ts
      simp only [Bool.and_eq_true] at hc
      obtain ⟨o1, rfl, h2⟩ := args1 hc.2
      have hpu := pureh_some hr
      clear hr
      obtain ⟨hr, rfl⟩ := hpu
      obtain ⟨x, h4, h5⟩ := alen_sound (P := P) (ty := ty) r hc.1 (chkX_sound h2 er) hr
      exact OpS.pur r (s := Builtin.len_ ts ty (#[o1].map a.eval)) (by simpa using h4) h5
    · cases hc
  | app esz bytes s y =>
    obtain ⟨dst, op', ty, pos, after, guard⟩ := o
    simp only [chkOp] at hc
    split at hc
    · rename_i as ts
      simp only [Bool.and_eq_true] at hc
      obtain ⟨o1, o2, rfl, h2, h3⟩ := args2 hc.2
      obtain ⟨x, w', ρ', h4, h5, h6, h7⟩ := aapp_sound (P := P) (ty := ty) r hc.1 f (chkX_sound h2 er) (chkX_sound h3 er) hr
      exact OpS.val (s := Builtin.append_ ts ty (#[o1, o2].map a.eval)) (by simpa using h4) h5 ⟨h6, h7⟩
    · cases hc
  | cpy esz d s =>
    obtain ⟨dst, op', ty, pos, after, guard⟩ := o
    simp only [chkOp] at hc
    split at hc
    · rename_i as ts
      simp only [Bool.and_eq_true] at hc
      obtain ⟨o1, o2, rfl, h2, h3⟩ := args2 hc.2
      obtain ⟨x, w', h4, h5, h6, h7⟩ := acopy_sound (P := P) (ty := ty) r hc.1 (chkX_sound h2 er) (chkX_sound h3 er) hr
      exact OpS.val (s := Builtin.copy_ ts ty (#[o1, o2].map a.eval)) (by simpa using h4) h5 ⟨h6, h7⟩
    · cases hc
  | mn l =>
    obtain ⟨dst, op', ty, pos, after, guard⟩ := o
    simp only [chkOp] at hc
    split at hc
    · rename_i as ts
      have hpu := pureh_some hr
      clear hr
      obtain ⟨hr, rfl⟩ := hpu
      have hf := chkXs_sound er hc
      split at hr
      · rename_i u us hl
        rw [hl] at hf
        obtain ⟨x0, xs, hx, hu, hus⟩ := hf.head
        obtain ⟨x, h4, h5⟩ := amins_sound (P := P) (w := w) hu hus hr
        exact OpS.pur r (s := Builtin.min_ ts ty (as.map a.eval)) (by simp only [Builtin.min_, hx]; exact h4) h5
      · cases hr
    · cases hc
  | mx l =>
    obtain ⟨dst, op', ty, pos, after, guard⟩ := o
    simp only [chkOp] at hc
    split at hc
    · rename_i as ts
      have hpu := pureh_some hr
      clear hr
      obtain ⟨hr, rfl⟩ := hpu
      have hf := chkXs_sound er hc
      split at hr
      · rename_i u us hl
        rw [hl] at hf
        obtain ⟨x0, xs, hx, hu, hus⟩ := hf.head
        obtain ⟨x, h4, h5⟩ := amaxs_sound (P := P) (w := w) hu hus hr
        exact OpS.pur r (s := Builtin.max_ ts ty (as.map a.eval)) (by simp only [Builtin.max_, hx]; exact h4) h5
      · cases hr
    · cases hc
  | del kk m k =>
    obtain ⟨dst, op', ty, pos, after, guard⟩ := o
    simp only [chkOp] at hc
    split at hc
    · rename_i as ts
      simp only [Bool.and_eq_true] at hc
      obtain ⟨o1, o2, rfl, h2, h3⟩ := args2 hc.2
      obtain ⟨x, w', h4, h5, h6, h7⟩ := adel_sound (P := P) (ty := ty) r hc.1 (chkX_sound h2 er) (chkX_sound h3 er) hr
      exact OpS.val (s := Builtin.delete_ ts ty (#[o1, o2].map a.eval)) (by simpa using h4) h5 ⟨h6, h7⟩
    · cases hc
  | clr esz z y =>
    obtain ⟨dst, op', ty, pos, after, guard⟩ := o
    simp only [chkOp] at hc
    split at hc
    · rename_i as ts
      simp only [Bool.and_eq_true] at hc
      obtain ⟨o1, rfl, h2⟩ := args1 hc.2
      obtain ⟨x, w', h4, h5, h6, h7⟩ := aclear_sound (P := P) (ty := ty) r hc.1 (chkX_sound h2 er) hr
      exact OpS.val (s := Builtin.clear_ ts ty (#[o1].map a.eval)) (by simpa using h4) h5 ⟨h6, h7⟩
    · cases hc
end
end Go.Proofs.Ytadbipeachcekaa.Ab
/- Code that is run by fuel does what the model's code does: regions in the order of the text. -/
namespace Go.Proofs.Ytadbipeachcekaa.Ab
open Go
set_option linter.unusedVariables false

/-! ### numbers grow -/
theorem AH.wr_next {h h' : AH} {id off : Nat} {vs : List AV} (e : h.wr id off vs = some h') : h'.next = h.next := by
  unfold AH.wr at e
  split at e
  · split at e
    · cases e; rfl
    · cases e
  · cases e
theorem pureh_nx {h h' : AH} {o : Option AV} {v : AV} (e : pureh h o = some (v, h')) : h.next ≤ h'.next := by rw [(pureh_some e).2]; exact Nat.le_refl _
theorem map_nx {h h' : AH} {o : Option AV} {v : AV} (e : (o.map fun x => (x, h)) = some (v, h')) : h.next ≤ h'.next := by cases o <;> simp at e; rw [e.2]; exact Nat.le_refl _
theorem mapl_nx {h h' : AH} {o : Option (List AV)} {f : List AV → AV} {v : AV} (e : (o.map fun x => (f x, h)) = some (v, h')) : h.next ≤ h'.next := by cases o <;> simp at e; rw [e.2]; exact Nat.le_refl _
theorem mapw_nx {h h' : AH} {id off : Nat} {vs : List AV} {v u : AV} (e : ((h.wr id off vs).map fun x => (u, x)) = some (v, h')) : h.next ≤ h'.next := by
  cases hw : h.wr id off vs with
  | none => simp [hw] at e
  | some x => simp [hw] at e; rw [← e.2, AH.wr_next hw]; exact Nat.le_refl _
theorem aop_nx {o : AO} {e : Env} {h h' : AH} {v : AV} (r : aop o e h = some (v, h')) : h.next ≤ h'.next := by
  cases o <;> simp only [aop, aload, astore, aapp, acopy, aclear, amake, alookup, amapput, amapent, amapst, adel] at r <;>
    (repeat' (first | (cases r <;> first | exact Nat.le_refl _ | exact Nat.le_succ _ | (simp only [next_alloc, next_set]; omega)) | exact pureh_nx r | exact map_nx r | exact mapl_nx r | exact mapw_nx r | split at r))

/-! ### the look at code -/
def chkG (ops : Array Oper) : Option (Nat × Bool) → Option (Nat × Bool) → Bool
  | none, none => true
  | some (j, b), some (s, c) => b == c && decide ((ops[j]?).bind (·.dst) = some s)
  | _, _ => false
def chkD (nt : Nat) : Option Nat → Option Nat → Bool
  | none, none => true
  | some d, some d' => d == d' && decide (d < nt)
  | _, _ => false
def chk1 (P : Program) (lk : Lk) (nt : Nat) (ops : Array Oper) (o : Oper) (x : AOp) : Bool := chkOp P lk o.op x.o && chkD nt o.dst x.d && chkG ops o.guard x.g
def chkOps (P : Program) (lk : Lk) (nt : Nat) (ops : Array Oper) (xs : List AOp) : Bool := all2 (chk1 P lk nt ops) ops.toList xs

section
variable {P : Program} {lk : Lk} {ρ : Rho} {h : AH} {w : World} {nt : Nat} {e : Env} {a : Act}
theorem ER.put (er : ER lk ρ nt e a) {d d' : Option Nat} {v : AV} {x : Value} (hd : chkD nt d d' = true) (hv : VE lk ρ v x) : ER lk ρ nt (eput e d' v) (a.put d x) := by
  cases d with
  | none =>
    cases d' with
    | none => exact er
    | some _ => cases hd
  | some d =>
    cases d' with
    | none => cases hd
    | some d' =>
      simp only [chkD, Bool.and_eq_true, beq_iff_eq, decide_eq_true_eq] at hd
      obtain ⟨rfl, hlt⟩ := hd
      refine ⟨fun n => ?_, by simp [Act.put, er.size], er.defers⟩
      by_cases hn : d = n
      · subst hn
        have : d < a.tmps.size := by rw [er.size]; exact hlt
        simpa [eput, eget, Act.put, Array.getD, this] using hv
      · have := er.get n
        simp only [eput, eget, hn, if_false, Act.put]
        rw [show (a.tmps.setIfInBounds d x).getD n undef = a.tmps.getD n undef by
          simp [Array.getD_eq_getD_getElem?, Array.getElem?_setIfInBounds_ne hn]]
        exact this
theorem ER.keep (er : ER lk ρ nt e a) (kp : List Nat) : ER lk ρ nt (keepE kp e) a := by
  refine ⟨fun n => ?_, er.size, er.defers⟩
  have : eget (keepE kp e) n = eget e n ∨ eget (keepE kp e) n = .un := by
    unfold keepE
    induction kp with
    | nil => exact .inr rfl
    | cons k r ih =>
      simp only [List.map_cons, eget]
      split
      · rename_i hk; subst hk; exact .inl rfl
      · exact ih
  rcases this with h | h <;> rw [h]
  · exact er.get n
  · exact .of (.un _)

/-! ### guards -/
theorem guard_sound (er : ER lk ρ nt e a) {ops : Array Oper} {o : Oper} {g : Option (Nat × Bool)} (hc : chkG ops o.guard g = true) {x : Bool} (hg : guarded e g = some x) :
    Region.wanted o (yielded ops a.tmps) = x := by
  unfold Region.wanted
  cases hog : o.guard with
  | none =>
    rw [hog] at hc
    cases g with
    | none => simp [guarded] at hg; simp [hg]
    | some p => cases hc
  | some p =>
    obtain ⟨j, b⟩ := p
    rw [hog] at hc
    cases g with
    | none => cases hc
    | some q =>
      obtain ⟨s, c⟩ := q
      simp only [chkG, Bool.and_eq_true, beq_iff_eq, decide_eq_true_eq] at hc
      obtain ⟨rfl, hs⟩ := hc
      have hv := er.get s
      simp only [guarded] at hg
      simp only [yielded, hs, Option.bind_some]
      split at hg
      · rename_i y hy
        cases hg
        rw [hy] at hv
        have hv := hv.b
        rw [Array.getD_eq_getD_getElem?] at hv
        cases ht : a.tmps[s]? with
        | none => rw [ht] at hv; simp [undef] at hv
        | some z => rw [ht] at hv; simp at hv; subst hv; cases y <;> cases b <;> rfl
      · rename_i hy
        cases hg
        rw [hy] at hv
        obtain ⟨xs, hx, hv⟩ := hv.tup'
        rw [Array.getD_eq_getD_getElem?] at hv
        cases ht : a.tmps[s]? with
        | none => simp
        | some z => rw [ht] at hv; simp at hv; subst hv; simp
      · cases hg

/-! ### calls -/
def CallsOk (P : Program) (lk : Lk) (f : Nat) (args : List AV) (h : AH) (v : AV) (h' : AH) : Prop :=
  ∃ g fn, lk f = some g ∧ P.funcs[g]? = some fn ∧ fn.name ≠ "runtime.NumGoroutine" ∧ fn.body.isNone = false ∧
    ∀ (ρ : Rho) (w : World) (xs : Array Value), Rel lk ρ h w → F2 (VE lk ρ) args xs.toList → Free ρ h.next h'.next →
      Calls P g xs w fun e w' => ∃ x ρ', e = .returned x ∧ VE lk ρ' v x ∧ Rel lk ρ' h' w' ∧ Stp ρ h w ρ' h' w'
structure CSound (P : Program) (lk : Lk) (C : CallF) : Prop where
  ok : ∀ {f args h v h'}, C f args h = some (v, h') → CallsOk P lk f args h v h'
  nx : ∀ {f args h v h'}, C f args h = some (v, h') → h.next ≤ h'.next

theorem exOp_nx {C : CallF} (cs : CSound P lk C) {o : AO} {e : Env} {h h' : AH} {v : AV} (hr : exOp C o e h = some (v, h')) : h.next ≤ h'.next := by
  unfold exOp at hr
  split at hr
  · exact cs.nx hr
  · split at hr
    · exact cs.nx hr
    · cases hr
  · exact aop_nx hr
theorem stepOp_nx {C : CallF} (cs : CSound P lk C) {o : AOp} {e : Env} {h h' : AH} {v : AV} (hr : stepOp C o e h = some (v, h')) : h.next ≤ h'.next := by
  unfold stepOp at hr
  split at hr
  · exact exOp_nx cs hr
  · cases hr; exact Nat.le_refl _
  · cases hr
theorem run_callFunc {g : FuncId} {fn : Func} {xs : Array Value} (hf : P.funcs[g]? = some fn) (hn : fn.name ≠ "runtime.NumGoroutine") (hb : fn.body.isNone = false) :
    (callFunc g xs).run P w = .ok (.enter g xs) w := by
  have hb' : fn.body ≠ none := by intro e; simp [e] at hb
  simp [callFunc, hf, hn, hb']

theorem ptrs_F2 {ps : List (Nat × Nat)} {xs : List Value} (h : F2 (PR ρ) ps xs) : F2 (VE lk ρ) (ps.map fun p => AV.ptr p.1 p.2) xs := by
  rw [F2.map_left]
  refine h.mono fun p x hp => ?_
  obtain ⟨b, t, h1, rfl⟩ := hp
  exact (VC.ptr h1).e

/-- an operation that is wanted -/
theorem op_sound {C : CallF} (cs : CSound P lk C) (r : Rel lk ρ h w) (er : ER lk ρ nt e a) {o : Oper} {x : AO} (hc : chkOp P lk o.op x = true) {v : AV} {h' : AH}
    (hr : exOp C x e h = some (v, h')) (f : Free ρ h.next h'.next) {K : Act → World → Prop} {Q : Exit → Act → World → Prop}
    (hK : ∀ y w' ρ', VE lk ρ' v y → Rel lk ρ' h' w' → Stp ρ h w ρ' h' w' → K (a.put o.dst y) w') : o.wp P a w K Q := by
  have fin : ∀ {g : FuncId} {fn : Func} {xs : Array Value} {args : List AV} {k : Nat}, lk k = some g → C k args h = some (v, h') → F2 (VE lk ρ) args xs.toList →
      (execOp a.eval o).run P w = (callFunc g xs).run P w → o.wp P a w K Q := by
    intro g fn xs args k hk hcall hf he
    obtain ⟨g', fn', h1, h2, h3, h4, h5⟩ := cs.ok hcall
    rw [hk] at h1
    cases h1
    unfold Oper.wp
    rw [he, run_callFunc h2 h3 h4, Oper.upon_enter]
    refine (h5 ρ w xs r hf f).mono ?_
    rintro E w' ⟨y, ρ', rfl, h6, h7, h8⟩
    exact hK y w' ρ' h6 h7 h8
  unfold exOp at hr
  split at hr
  · rename_i k args
    obtain ⟨dst, op, ty, pos, after, guard⟩ := o
    simp only [chkOp] at hc
    split at hc
    · rename_i g as _
      simp only [Bool.and_eq_true, decide_eq_true_eq] at hc
      refine fin (fn := default) hc.1 hr (chkXs_sound er hc.2) ?_
      simp [execOp, resolve, Act.eval, Deferred.ofValue, invoke]
    · cases hc
  · rename_i fx args
    obtain ⟨dst, op, ty, pos, after, guard⟩ := o
    simp only [chkOp] at hc
    split at hc
    · rename_i q as _
      simp only [Bool.and_eq_true] at hc
      split at hr
      · rename_i k first cap hv
        have hq := chkX_sound hc.1 er
        rw [hv] at hq
        obtain ⟨g, f1, c1, h1, h2, h3, hx⟩ := hq.fn
        refine fin (fn := default) (xs := f1 ++ as.map a.eval ++ c1) h1 hr ?_ ?_
        · simp only [Array.toList_append]
          exact ((ptrs_F2 h2).append (chkXs_sound er hc.2)).append (ptrs_F2 h3)
        · simp [execOp, resolve, hx, Deferred.ofValue, invoke]
      · cases hr
    · cases hc
  · rename_i hn1 hn2
    obtain ⟨y, w', ρ', h1, h2, h3, h4⟩ := aop_sound (P := P) r er hc hr f
    unfold Oper.wp
    rcases h1 with h1 | ⟨h1, rfl⟩
    · rw [h1, Oper.upon_value]; exact hK y w' ρ' h2 h3 h4
    · rw [h1, Oper.upon_skip]; exact hK _ w' ρ' h2 h3 h4

/-- an operation, wanted or not -/
theorem step_sound {C : CallF} (cs : CSound P lk C) (r : Rel lk ρ h w) (er : ER lk ρ nt e a) {ops : Array Oper} {i : Nat} {o : Oper} (hi : ops[i]? = some o) {x : AOp}
    (hc : chk1 P lk nt ops o x = true) {v : AV} {h' : AH} (hr : stepOp C x e h = some (v, h')) (f : Free ρ h.next h'.next) {K : Act → World → Prop} {Q : Exit → Act → World → Prop}
    (hK : ∀ a' w' ρ', ER lk ρ' nt (eput e x.d v) a' → Rel lk ρ' h' w' → Stp ρ h w ρ' h' w' → (∃ y, VE lk ρ' v y) → K a' w') : wpOp P ops Q i K a w := by
  simp only [chk1, Bool.and_eq_true] at hc
  unfold stepOp at hr
  unfold wpOp
  simp only [hi]
  split at hr
  · rename_i hg
    rw [if_pos (guard_sound er hc.2 hg)]
    exact .inl (op_sound cs r er hc.1.1 hr f fun y w' ρ' h1 h2 h3 => hK _ _ _ ((er.mono (h3.le f)).put hc.1.2 h1) h2 h3 ⟨_, h1⟩)
  · rename_i hg
    cases hr
    rw [if_neg (by rw [guard_sound er hc.2 hg]; simp)]
    exact hK _ _ _ (er.put hc.1.2 (.tup trivial)) r (.refl _ _ _) ⟨.tuple #[], .tup trivial⟩
  · cases hr

theorem exOps_nx {C : CallF} (cs : CSound P lk C) : ∀ {xs : List AOp} {e : Env} {h : AH} {e' : Env} {h' : AH}, exOps C xs e h = some (e', h') → h.next ≤ h'.next
  | [], e, h, e', h', hr => by simp [exOps] at hr; rw [hr.2]; exact Nat.le_refl _
  | x :: xs, e, h, e', h', hr => by
    simp only [exOps] at hr
    split at hr
    · rename_i v h1 h2
      exact Nat.le_trans (stepOp_nx cs h2) (exOps_nx cs hr)
    · cases hr

theorem exOps_sound {C : CallF} (cs : CSound P lk C) {ops : Array Oper} {Q : Exit → Act → World → Prop} : ∀ {l : List Oper} {xs : List AOp} {k : Nat} {ρ : Rho} {e : Env} {h : AH} {a : Act} {w : World} {e' : Env} {h' : AH},
    ops.toList.drop k = l → all2 (chk1 P lk nt ops) l xs = true → exOps C xs e h = some (e', h') → Rel lk ρ h w → ER lk ρ nt e a → Free ρ h.next h'.next →
    (∀ a' w' ρ', ER lk ρ' nt e' a' → Rel lk ρ' h' w' → Stp ρ h w ρ' h' w' → Q .normal a' w') → wpOps P ops Q (List.range' k l.length) a w
  | [], xs, k, ρ, e, h, a, w, e', h', hl, hc, hr, r, er, f, hQ => by
    cases xs with
    | nil => simp [exOps] at hr; obtain ⟨rfl, rfl⟩ := hr; exact hQ _ _ _ er r (.refl _ _ _)
    | cons => simp [all2] at hc
  | o :: l, xs, k, ρ, e, h, a, w, e', h', hl, hc, hr, r, er, f, hQ => by
    cases xs with
    | nil => simp [all2] at hc
    | cons x xs =>
      simp only [all2, Bool.and_eq_true] at hc
      simp only [exOps] at hr
      split at hr
      · rename_i v h1 hs
        have hi : ops[k]? = some o := by
          rw [← Array.getElem?_toList]
          have : (ops.toList.drop k)[0]? = some o := by rw [hl]; rfl
          simpa using this
        rw [List.length_cons, List.range'_succ, wpOps_cons]
        have n2 := exOps_nx cs hr
        refine step_sound cs r er hi hc.1 hs (f.fst n2) fun a' w' ρ' e1 r1 s1 _ => ?_
        refine exOps_sound cs (k := k + 1) ?_ hc.2 hr r1 e1 (Free.snd s1 f) fun a2 w2 ρ2 e2 r2 s2 => hQ a2 w2 ρ2 e2 r2 (s1.trans s2)
        have := congrArg List.tail hl
        simpa [List.tail_drop] using this
      · cases hr
end
end Go.Proofs.Ytadbipeachcekaa.Ab
/- Regions whose order is open: every order does what the order of the text does, if a look at the edges and at what is read says so. -/
namespace Go.Proofs.Ytadbipeachcekaa.Ab
open Go
set_option linter.unusedVariables false

/-! ### kinds of operations; what they read -/
inductive KD where
  | pure | reader | alloc | loud
  deriving DecidableEq
def AO.kind : AO → KD
  | .ld _ _ | .lkp _ _ _ _ _ | .len .mp _ | .toStr _ => .reader
  | .alloc _ | .box _ _ | .bsl _ _ _ _ | .mks _ _ _ _ _ | .mkm | .toBytes _ => .alloc
  | .st _ _ _ | .mup _ _ _ _ | .ment _ _ _ _ | .mst _ _ _ | .call _ _ | .callv _ _ | .app _ _ _ _ | .cpy _ _ _ | .del _ _ _ | .clr _ _ _ | .mark _ => .loud
  | _ => .pure
def AX.use : AX → List Nat
  | .t n => [n]
  | .c _ => []
def uses (l : List AX) : List Nat := l.flatMap AX.use
def AO.args : AO → List AX
  | .mv x | .not x | .neg x | .xor x | .toInt _ x | .same x | .toStr x | .toBytes x | .mark x | .runeStr x | .box _ x | .ld _ x | .chk x | .fa _ x | .fld _ _ x | .ext _ x | .len _ x | .clr _ _ x => [x]
  | .pick c a b => [c, a, b]
  | .bin _ x y | .eq _ _ x y | .st _ x y | .ia _ x y | .iaa _ _ x y | .ix _ _ _ x y | .ixs x y | .lkp _ _ _ x y | .ment _ _ x y | .app _ _ x y | .cpy _ x y | .del _ x y | .mks _ _ _ x y => [x, y]
  | .alloc _ | .mkm => []
  | .build _ ps | .bsl _ _ _ ps => ps.map (·.2.2)
  | .slc _ x lo hi m => x :: (lo.toList ++ hi.toList ++ m.toList)
  | .sls x lo hi | .sla _ _ x lo hi => x :: (lo.toList ++ hi.toList)
  | .mup _ m k v | .mst m k v => [m, k, v]
  | .mkf _ a c => a ++ c
  | .call _ l | .mn l | .mx l => l
  | .callv f l => f :: l
def AOp.reads (x : AOp) : List Nat := uses x.o.args ++ (match x.g with | some (s, _) => [s] | none => [])

theorem fills_congr {e e' : Env} : ∀ {ps : List (Nat × Nat × AX)} {z : List AV}, (∀ x ∈ ps.map (·.2.2), ev e x = ev e' x) → fills e z ps = fills e' z ps
  | [], z, _ => rfl
  | (o, n, x) :: r, z, h => by
    have h0 : ev e x = ev e' x := h x (by simp)
    simp only [fills, h0]
    split
    · split
      · exact fills_congr fun y hy => h y (by simp at hy ⊢; exact .inr hy)
      · rfl
    · rfl
theorem map_congr' {e e' : Env} {l : List AX} (h : ∀ x ∈ l, ev e x = ev e' x) : l.map (ev e) = l.map (ev e') := List.map_congr_left h
theorem opt_congr {e e' : Env} {l : Option AX} (h : ∀ x ∈ l.toList, ev e x = ev e' x) : l.map (ev e) = l.map (ev e') := by
  cases l with
  | none => rfl
  | some x => simp [h x (by simp)]
theorem exOp_congr' {C : CallF} {o : AO} {e e' : Env} {h : AH} (he : ∀ x ∈ o.args, ev e x = ev e' x) : exOp C o e h = exOp C o e' h := by
  cases o <;> simp only [AO.args] at he
  case call f l => simp only [exOp, map_congr' (l := l) he]
  case callv f l => simp only [exOp, map_congr' (l := l) fun x hx => he x (.tail _ hx), he f (.head _)]
  case build z ps => simp only [exOp, aop, fills_congr (z := z) he]
  case bsl a b z ps => simp only [exOp, aop, fills_congr (z := z) he]
  case slc a x lo hi m => simp only [exOp, aop, he x (.head _), opt_congr (l := lo) fun y hy => he y (by simp at hy ⊢; simp [hy]), opt_congr (l := hi) fun y hy => he y (by simp at hy ⊢; simp [hy]), opt_congr (l := m) fun y hy => he y (by simp at hy ⊢; simp [hy])]
  case sls x lo hi => simp only [exOp, aop, he x (.head _), opt_congr (l := lo) fun y hy => he y (by simp at hy ⊢; simp [hy]), opt_congr (l := hi) fun y hy => he y (by simp at hy ⊢; simp [hy])]
  case sla a b x lo hi => simp only [exOp, aop, he x (.head _), opt_congr (l := lo) fun y hy => he y (by simp at hy ⊢; simp [hy]), opt_congr (l := hi) fun y hy => he y (by simp at hy ⊢; simp [hy])]
  case mkf f a c => simp only [exOp, aop, map_congr' (l := a) fun x hx => he x (List.mem_append_left _ hx), map_congr' (l := c) fun x hx => he x (List.mem_append_right _ hx)]
  case mn l => simp only [exOp, aop, map_congr' (l := l) he]
  case mx l => simp only [exOp, aop, map_congr' (l := l) he]
  case alloc z => rfl
  case mkm => rfl
  all_goals (simp only [List.forall_mem_cons] at he; simp only [exOp, aop, he])
theorem stepOp_congr {C : CallF} {x : AOp} {e e' : Env} {h : AH} (he : ∀ n ∈ x.reads, eget e n = eget e' n) : stepOp C x e h = stepOp C x e' h := by
  have h1 : exOp C x.o e h = exOp C x.o e' h := exOp_congr' fun y hy => by
    cases y with
    | t n => exact he n (List.mem_append_left _ (List.mem_flatMap.2 ⟨.t n, hy, by simp [AX.use]⟩))
    | c v => rfl
  have h2 : guarded e x.g = guarded e' x.g := by
    cases hg : x.g with
    | none => rfl
    | some p => simp only [guarded]; rw [he p.1 (by simp [AOp.reads, hg])]
  simp only [stepOp, h1, h2]

theorem map_pair {α : Type} {h h' : AH} {o : Option α} {f : α → AV} {v : AV} (e : (o.map fun x => (f x, h)) = some (v, h')) : h' = h := by cases o <;> simp at e; exact e.2.symm
theorem pure_any {o : AO} {e : Env} {h h' : AH} {v : AV} (hk : o.kind = .pure) (hr : aop o e h = some (v, h')) : h' = h ∧ ∀ h2, aop o e h2 = some (v, h2) := by
  have key : ∀ {q : Option AV}, pureh h q = some (v, h') → h' = h ∧ ∀ h2, pureh h2 q = some (v, h2) := fun hp => by
    obtain ⟨rfl, rfl⟩ := pureh_some hp
    exact ⟨rfl, fun _ => rfl⟩
  cases o <;> simp only [AO.kind] at hk <;> try contradiction
  case mv x => simp only [aop, Option.some.injEq, Prod.mk.injEq] at hr ⊢; exact ⟨hr.2.symm, fun _ => by simp [hr.1]⟩
  case pick c a b => simp only [aop] at hr ⊢; split at hr <;> simp_all
  case len k x =>
    have hl : ∀ h2, alen k (ev e x) h2 = alen k (ev e x) h := fun h2 => by
      cases k
      · cases ev e x <;> rfl
      · cases ev e x <;> rfl
      · simp at hk
    simp only [aop] at hr ⊢
    obtain ⟨h1, rfl⟩ := pureh_some hr
    exact ⟨rfl, fun h2 => by rw [hl h2, h1]; rfl⟩
  all_goals exact key hr
theorem reader_same {o : AO} {e : Env} {h h' : AH} {v : AV} (hk : o.kind = .reader) (hr : aop o e h = some (v, h')) : h' = h := by
  cases o <;> simp only [AO.kind] at hk <;> try contradiction
  case toStr x => simp only [aop] at hr; split at hr; exact (pureh_some hr).2; cases hr
  case ld sz x => simp only [aop, aload] at hr; split at hr; exact map_pair (f := fun x => x) hr; exact map_pair (f := AV.agg) hr; cases hr
  case lkp kk z ok m k =>
    simp only [aop, alookup] at hr
    split at hr
    · split at hr
      · cases hr; rfl
      · cases hr
    · split at hr
      · cases hr
      · split at hr
        · cases hr
        · cases hr; rfl
        · cases hr; rfl
  case len k x => exact (pureh_some hr).2
theorem alloc_any {o : AO} {e : Env} {h h' : AH} {v : AV} (hk : o.kind = .alloc) (hr : aop o e h = some (v, h')) :
    ∃ (B : Blk) (V : Nat → AV), h' = h.alloc B ∧ v = V h.next ∧ (∀ h2, aop o e h2 = some (V h2.next, h2.alloc B)) ∧ ∀ {lk : Lk} {ρ : Rho} {id : Nat} {y : Value}, VE lk ρ (V id) y → ∃ b t, ρ id = some (b, t) := by
  have kp : ∀ {lk : Lk} {ρ : Rho} {id : Nat} {y : Value}, VE lk ρ (.ptr id 0) y → ∃ b t, ρ id = some (b, t) := fun hy => by obtain ⟨b, t, h1, _⟩ := hy.ptr; exact ⟨b, t, h1⟩
  have ks : ∀ {lk : Lk} {ρ : Rho} {id l c lo : Nat} {y : Value}, VE lk ρ (.sl id 0 l c lo) y → ∃ b t, ρ id = some (b, t) := fun hy => by obtain ⟨b, t, _, _, h1, _⟩ := hy.sl; exact ⟨b, t, h1⟩
  have km : ∀ {lk : Lk} {ρ : Rho} {id : Nat} {y : Value}, VE lk ρ (.mp id) y → ∃ b t, ρ id = some (b, t) := fun hy => by obtain ⟨b, t, h1, _⟩ := hy.mp; exact ⟨b, t, h1⟩
  cases o <;> simp only [AO.kind] at hk <;> try contradiction
  case len k x => cases k <;> simp at hk
  case toBytes x =>
    simp only [aop] at hr ⊢
    split at hr
    · split at hr
      · rename_i l hl hlen
        cases hr
        exact ⟨_, fun id => .sl id 0 l.length l.length 1, rfl, rfl, fun h2 => by simp [hlen], ks⟩
      · cases hr
    · cases hr
  case alloc z => cases hr; exact ⟨_, fun id => .ptr id 0, rfl, rfl, fun h2 => rfl, kp⟩
  case box sz x =>
    simp only [aop] at hr ⊢
    split at hr
    · split at hr
      · rename_i cs hcs hl
        cases hr
        exact ⟨_, fun id => .ptr id 0, rfl, rfl, fun h2 => by simp [hl], kp⟩
      · cases hr
    · cases hr
  case bsl esz len z ps =>
    simp only [aop] at hr ⊢
    split at hr
    · split at hr
      · rename_i cs hcs hl
        cases hr
        exact ⟨_, fun id => .sl id 0 len len 0, rfl, rfl, fun h2 => by simp [hl], ks⟩
      · cases hr
    · cases hr
  case mks esz bytes z l c =>
    simp only [aop, amake] at hr ⊢
    split at hr
    · split at hr
      · rename_i l' c' _ _ hif
        cases hr
        exact ⟨_, fun id => .sl id 0 l'.toNat c'.toNat 0, rfl, rfl, fun h2 => by rw [if_pos hif], ks⟩
      · cases hr
    · cases hr
  case mkm => cases hr; exact ⟨_, fun id => .mp id, rfl, rfl, fun h2 => rfl, km⟩

/-! ### the edges -/
def anc1 (A : List Nat) : List Edge → Nat
  | [] => 0
  | e :: r => if Region.binds .any e then (anc1 A r ||| (1 <<< e.on)) ||| A.getD e.on 0 else anc1 A r
def ancs : List Oper → List Nat → List Nat
  | [], A => A
  | o :: r, A => ancs r (A ++ [anc1 A o.after.toList])
def ancOk (A : List Nat) : Nat → List Oper → Bool
  | _, [] => true
  | i, o :: r => (A.getD i 0 == anc1 A o.after.toList) && o.after.toList.all (fun e => !Region.binds .any e || Nat.blt e.on i) && ancOk A (i + 1) r
def bit (A : List Nat) (i j : Nat) : Bool := (A.getD i 0).testBit j
theorem anc1_bit {A : List Nat} {j : Nat} : ∀ {es : List Edge}, (anc1 A es).testBit j = true → ∃ e ∈ es, Region.binds .any e = true ∧ (j = e.on ∨ bit A e.on j = true)
  | [], h => by simp [anc1] at h
  | e :: r, h => by
    simp only [anc1] at h
    split at h
    · rename_i hb
      simp only [Nat.testBit_or, Bool.or_eq_true] at h
      rcases h with (h | h) | h
      · obtain ⟨x, h1, h2⟩ := anc1_bit h
        exact ⟨x, .tail _ h1, h2⟩
      · refine ⟨e, .head _, hb, .inl ?_⟩
        rw [Nat.one_shiftLeft, Nat.testBit_two_pow] at h
        simpa using (of_decide_eq_true h).symm
      · exact ⟨e, .head _, hb, .inr h⟩
    · obtain ⟨x, h1, h2⟩ := anc1_bit h
      exact ⟨x, .tail _ h1, h2⟩
theorem ancOk_get {A : List Nat} : ∀ {l : List Oper} {i k : Nat} {o : Oper}, ancOk A i l = true → l[k]? = some o → A.getD (i + k) 0 = anc1 A o.after.toList ∧ ∀ e ∈ o.after.toList, Region.binds .any e = true → e.on < i + k
  | [], _, _, _, _, h => by simp at h
  | o :: l, i, 0, o', h, hk => by
    simp at hk; subst hk
    simp only [ancOk, Bool.and_eq_true, beq_iff_eq, List.all_eq_true] at h
    exact ⟨h.1.1, fun e he hb => by
      have := h.1.2 e he
      rw [hb] at this
      simpa [Nat.blt_eq] using this⟩
  | o :: l, i, k + 1, o', h, hk => by
    simp only [ancOk, Bool.and_eq_true] at h
    have := ancOk_get (i := i + 1) (k := k) h.2 (by simpa using hk)
    rwa [show i + 1 + k = i + (k + 1) by omega] at this
/-- whatever lies ahead of an operation is done when the operation is ready -/
theorem anc_listed {A : List Nat} {ops : Array Oper} (hA : ancOk A 0 ops.toList = true) {L : Nat → Prop}
    (hd : ∀ i o, ops[i]? = some o → L i → ∀ e ∈ o.after, Region.binds .any e = true → L e.on) :
    ∀ (i : Nat) (o : Oper), ops[i]? = some o → (∀ e ∈ o.after, Region.binds .any e = true → L e.on) → ∀ j, bit A i j = true → L j := by
  intro i
  induction i using Nat.strongRecOn with
  | _ i ih =>
    intro o ho hall j hj
    obtain ⟨h1, h2⟩ := ancOk_get (k := i) hA (by simpa using ho)
    rw [Nat.zero_add] at h1 h2
    unfold bit at hj
    rw [h1] at hj
    obtain ⟨e, h3, h4, h5⟩ := anc1_bit hj
    have hl : L e.on := hall e (by simpa using h3) h4
    rcases h5 with rfl | h5
    · exact hl
    · have hlt := h2 e h3 h4
      have hs : i < ops.size := (Array.getElem?_eq_some_iff.1 ho).1
      have ho' : ops[e.on]? = some ops[e.on] := Array.getElem?_eq_getElem (by omega)
      exact ih e.on hlt _ ho' (hd _ _ ho' hl) j h5

/-! ### the look at a region -/
def AOp.hard (x : AOp) : Bool := match x.o.kind with | .alloc | .loud => true | _ => false
def AOp.isLoud (x : AOp) : Bool := match x.o.kind with | .loud => true | _ => false
def AOp.isReader (x : AOp) : Bool := match x.o.kind with | .reader => true | _ => false
def hardAt (xs : List AOp) (k : Nat) : Bool := match xs[k]? with | some x => x.hard | none => false
def pairOk (A : List Nat) (i : Nat) (x : AOp) (k : Nat) (y : AOp) : Bool :=
  (k == i) ||
  ((match y.d with
    | none => true
    | some d => (x.d != some d) && (!(x.reads.contains d) || (Nat.blt k i && bit A i k) || (Nat.blt i k && bit A k i))) &&
   (!x.hard || !y.isLoud || !Nat.blt i k || bit A k i))
def readOk (A : List Nat) (xs : List AOp) (rc : List (Nat × Nat)) (i : Nat) (x : AOp) (p : Nat) : Bool :=
  !x.isReader || !(p == xs.length || hardAt xs p) || (Nat.blt p xs.length && bit A i p) || (List.range p).any (fun k => hardAt xs k && bit A k i) ||
  (List.range xs.length).all (fun k => !(hardAt xs k) || Nat.blt k (min i p) || Nat.ble (max i p) k) || rc.contains (i, p)
def allAt (f : Nat → AOp → Bool) : Nat → List AOp → Bool
  | _, [] => true
  | i, x :: r => f i x && allAt f (i + 1) r
theorem allAt_get {f : Nat → AOp → Bool} : ∀ {l : List AOp} {i k : Nat} {x : AOp}, allAt f i l = true → l[k]? = some x → f (i + k) x = true
  | [], _, _, _, _, h => by simp at h
  | y :: l, i, 0, x, h, hk => by simp at hk; subst hk; simp only [allAt, Bool.and_eq_true] at h; exact h.1
  | y :: l, i, k + 1, x, h, hk => by
    simp only [allAt, Bool.and_eq_true] at h
    have := allAt_get (i := i + 1) (k := k) h.2 (by simpa using hk)
    rwa [show i + 1 + k = i + (k + 1) by omega] at this
def chkRD (P : Program) (lk : Lk) (nt : Nat) (ops : Array Oper) (xs : List AOp) (rc : List (Nat × Nat)) : Bool :=
  chkOps P lk nt ops xs &&
  (match ancs ops.toList [] with
   | A => ancOk A 0 ops.toList && allAt (fun i x => allAt (fun k y => pairOk A i x k y) 0 xs) 0 xs && allAt (fun i x => (List.range (xs.length + 1)).all (readOk A xs rc i x)) 0 xs)

/-! ### the run in the order of the text, by numbers -/
structure Tr (C : CallF) (xs : List AOp) (E : Nat → Env) (H : Nat → AH) (v : Nat → AV) : Prop where
  step : ∀ k x, xs[k]? = some x → stepOp C x (E k) (H k) = some (v k, H (k + 1))
  env : ∀ k x, xs[k]? = some x → E (k + 1) = eput (E k) x.d (v k)
theorem exTr_tr {C : CallF} : ∀ {xs : List AOp} {e : Env} {h : AH} {tr : List (Env × AH × AV)} {e' : Env} {h' : AH}, exTr C xs e h = some (tr, e', h') →
    ∃ E H v, Tr C xs E H v ∧ E 0 = e ∧ H 0 = h ∧ E xs.length = e' ∧ H xs.length = h' ∧ tr.length = xs.length ∧ ∀ k, k < xs.length → tr[k]? = some (E k, H k, v k)
  | [], e, h, tr, e', h', hr => by
    simp [exTr] at hr
    obtain ⟨rfl, rfl, rfl⟩ := hr
    exact ⟨fun _ => e, fun _ => h, fun _ => .un, ⟨fun k x hk => by simp at hk, fun k x hk => by simp at hk⟩, rfl, rfl, rfl, rfl, rfl, fun k hk => by simp at hk⟩
  | x :: xs, e, h, tr, e', h', hr => by
    simp only [exTr] at hr
    split at hr
    · rename_i v h1 hs
      split at hr
      · rename_i tr2 e2 h2 hr2
        cases hr
        obtain ⟨E, H, V, t, a1, a2, a3, a4, a5, a6⟩ := exTr_tr hr2
        refine ⟨fun k => match k with | 0 => e | k + 1 => E k, fun k => match k with | 0 => h | k + 1 => H k, fun k => match k with | 0 => v | k + 1 => V k, ⟨?_, ?_⟩, rfl, rfl, a3, a4, by simp [a5], ?_⟩
        · intro k y hk
          cases k with
          | zero => simp at hk; subst hk; simpa [a2] using hs
          | succ k => exact t.step k y (by simpa using hk)
        · intro k y hk
          cases k with
          | zero => simp at hk; subst hk; simpa using a1
          | succ k => exact t.env k y (by simpa using hk)
        · intro k hk
          cases k with
          | zero => rfl
          | succ k => simpa using a6 k (by simpa using hk)
      · cases hr
    · cases hr
end Go.Proofs.Ytadbipeachcekaa.Ab
/- Regions whose order is open: the invariant over what is done so far. -/
namespace Go.Proofs.Ytadbipeachcekaa.Ab
open Go
set_option linter.unusedVariables false

def one (id : Nat) (B : Blk) : AH := ⟨id + 1, fun j => if j = id then some B else none⟩
theorem one_same (id : Nat) (B : Blk) : (one id B).blk id = some B := by simp [one]
theorem one_some {id j : Nat} {B C : Blk} (h : (one id B).blk j = some C) : j = id ∧ C = B := by
  simp only [one] at h; split at h
  · cases h; exact ⟨by assumption, rfl⟩
  · cases h
section
variable {lk : Lk} {ρ ρ' : Rho} {h h' : AH} {w w' : World}
/-- a new block that the abstract run has not yet made stays what it is -/
theorem one_keep {id : Nat} {B : Blk} (r : Rel lk ρ (one id B) w) {b t : Nat} (h1 : ρ id = some (b, t)) (h2 : ρ' id = some (b, t)) (hle : ρ.le ρ') (hw : w'.heap[b]? = w.heap[b]?)
    (hlt : ∀ {j b t : Nat}, ρ' j = some (b, t) → b < w'.heap.size) : Rel lk ρ' (one id B) w' := by
  refine ⟨?_, ?_, ?_, hlt, ?_⟩
  · intro j b' t' cs ro hj hb
    obtain ⟨rfl, rfl⟩ := one_some hb
    rw [h2] at hj
    cases hj
    obtain ⟨cur, ty, fz, a1, a2, a3, a4, a5⟩ := r.row h1 hb
    exact ⟨cur, ty, fz, by rw [hw]; exact a1, a2, a3, a4, fun k x hx => by obtain ⟨y, a6, a7⟩ := a5 k x hx; exact ⟨y, a6, a7.mono hle⟩⟩
  · intro j b' t' es cl hj hb
    obtain ⟨rfl, rfl⟩ := one_some hb
    rw [h2] at hj
    cases hj
    obtain ⟨es', a1, a2⟩ := r.map h1 hb
    exact ⟨es', by rw [hw]; exact a1, a2.mono fun _ _ ⟨a, b, c⟩ => ⟨a.mono hle, b.mono hle, c⟩⟩
  · intro i j b t b' t' hi hj hbi hbj e
    obtain ⟨B1, hb1⟩ := Option.ne_none_iff_exists'.1 hbi
    obtain ⟨B2, hb2⟩ := Option.ne_none_iff_exists'.1 hbj
    rw [(one_some hb1).1, (one_some hb2).1]
  · intro j hj
    simp only [one] at hj ⊢
    rw [if_neg (by omega)]
/-- ... until it makes it -/
theorem one_absorb {B : Blk} (r : Rel lk ρ h w) (r1 : Rel lk ρ (one h.next B) w) {b t : Nat} (h1 : ρ h.next = some (b, t)) (hn : ¬ Live ρ h b) : Rel lk ρ (h.alloc B) w := by
  refine ⟨?_, ?_, ?_, r.lt, ?_⟩
  · intro j b' t' cs ro hj hb
    by_cases e : j = h.next
    · subst e
      rw [blk_alloc_same] at hb
      exact r1.row hj (by rw [one_same]; exact hb)
    · rw [blk_alloc_ne e] at hb
      exact r.row hj hb
  · intro j b' t' es cl hj hb
    by_cases e : j = h.next
    · subst e
      rw [blk_alloc_same] at hb
      exact r1.map hj (by rw [one_same]; exact hb)
    · rw [blk_alloc_ne e] at hb
      exact r.map hj hb
  · intro i j b1 t1 b2 t2 hi hj hbi hbj e
    subst e
    by_cases ei : i = h.next
    · by_cases ej : j = h.next
      · rw [ei, ej]
      · subst ei
        rw [h1] at hi
        cases hi
        rw [blk_alloc_ne ej] at hbj
        exact (hn ⟨j, t2, hj, hbj⟩).elim
    · by_cases ej : j = h.next
      · subst ej
        rw [h1] at hj
        cases hj
        rw [blk_alloc_ne ei] at hbi
        exact (hn ⟨i, t1, hi, hbi⟩).elim
      · rw [blk_alloc_ne ei] at hbi
        rw [blk_alloc_ne ej] at hbj
        exact r.inj hi hj hbi hbj rfl
  · intro j hj
    rw [blk_alloc_ne (by simp only [next_alloc] at hj; omega)]
    exact r.wf j (by simp only [next_alloc] at hj; omega)

structure Stq (ρ : Rho) (h : AH) (w : World) (ρ' : Rho) (h' : AH) (w' : World) : Prop where
  nx : h.next ≤ h'.next
  un : ∀ id, id < h.next → ρ id = none → h'.blk id = h.blk id
  lv : ∀ b, b < w.heap.size → Live ρ' h' b → Live ρ h b
  wl : ∀ b, b < w.heap.size → Wr ρ' h' b → Wr ρ h b
  sm : ∀ b, b < w.heap.size → ¬ Wr ρ h b → w'.heap[b]? = w.heap[b]?
  sz : w.heap.size ≤ w'.heap.size
  os : w'.os = w.os
  tape : w'.tape = w.tape
  output : w'.output = w.output
theorem Stq.step {ρ0 : Rho} {h0 : AH} {w0 : World} (q : Stq ρ0 h0 w0 ρ h w) (ag : ∀ id, id < h0.next → ρ id = ρ0 id) (s : Stp ρ h w ρ' h' w') : Stq ρ0 h0 w0 ρ' h' w' where
  nx := Nat.le_trans q.nx s.nx
  un id hid hr := by
    have := q.nx
    rw [s.un id (by omega) (by rw [ag id hid]; exact hr), q.un id hid hr]
  lv b hb hl := q.lv b hb (s.lv b (Nat.lt_of_lt_of_le hb q.sz) hl)
  wl b hb hl := q.wl b hb (s.wl b (Nat.lt_of_lt_of_le hb q.sz) hl)
  sm b hb hn := by
    rw [s.sm b (Nat.lt_of_lt_of_le hb q.sz) (fun h => hn (q.wl b hb h)), q.sm b hb hn]
  sz := Nat.le_trans q.sz s.sz
  os := s.os.trans q.os
  tape := s.tape.trans q.tape
  output := s.output.trans q.output
end

section
variable {lk : Lk} {nt : Nat} {xs : List AOp} {E : Nat → Env} {H : Nat → AH} {v : Nat → AV} {ρ0 : Rho} {h0 : AH} {w0 : World}
/-- a block that is there already, but that the run in the order of the text makes later -/
def Pd (xs : List AOp) (E : Nat → Env) (L : Nat → Prop) (p k : Nat) : Prop := ∃ x, xs[k]? = some x ∧ p ≤ k ∧ L k ∧ x.o.kind = .alloc ∧ guarded (E k) x.g = some true

structure Inv (lk : Lk) (nt : Nat) (xs : List AOp) (E : Nat → Env) (H : Nat → AH) (v : Nat → AV) (ρ0 : Rho) (h0 : AH) (w0 : World) (L : Nat → Prop) (ρ : Rho) (p : Nat) (eS : Env) (a : Act) (w : World) : Prop where
  er : ER lk ρ nt eS a
  rel : Rel lk ρ (H p) w
  pm : p ≤ xs.length
  front : ∀ k x, xs[k]? = some x → k < p → x.hard = true → L k
  back : ∀ k x, xs[k]? = some x → p ≤ k → x.isLoud = true → ¬ L k
  es1 : ∀ k x d, xs[k]? = some x → L k → x.d = some d → eget eS d = v k
  es2 : ∀ d, (∀ k x, xs[k]? = some x → L k → x.d ≠ some d) → eget eS d = eget (E 0) d
  ag : ∀ id, id < h0.next ∨ (H xs.length).next ≤ id → ρ id = ρ0 id
  fr : ∀ id, (H p).next ≤ id → id < (H xs.length).next → ρ id = none ∨ ∃ k, Pd xs E L p k ∧ id = (H k).next
  pd : ∀ k, Pd xs E L p k → ∃ b t B, ρ (H k).next = some (b, t) ∧ H (k + 1) = (H k).alloc B ∧ Rel lk ρ (one (H k).next B) w ∧ ¬ Live ρ (H p) b ∧ w0.heap.size ≤ b
  pj : ∀ k k' b t t', Pd xs E L p k → Pd xs E L p k' → ρ (H k).next = some (b, t) → ρ (H k').next = some (b, t') → k = k'
  st : Stq ρ0 h0 w0 ρ (H p) w

theorem Pd.same {L : Nat → Prop} {p k i : Nat} {x : AOp} (hi : xs[i]? = some x) (hn : ¬ (x.o.kind = .alloc ∧ guarded (E i) x.g = some true)) (h : Pd xs E (fun j => L j ∨ j = i) p k) : Pd xs E L p k := by
  obtain ⟨y, h1, h2, h3, h4, h5⟩ := h
  refine ⟨y, h1, h2, ?_, h4, h5⟩
  rcases h3 with h3 | rfl
  · exact h3
  · rw [hi] at h1; cases h1; exact (hn ⟨h4, h5⟩).elim

variable {L : Nat → Prop} {ρ : Rho} {p : Nat} {eS : Env} {a : Act} {w : World}
/-- one more operation that makes no block ahead of time -/
theorem Inv.adv (hH : ∀ i j, i ≤ j → j ≤ xs.length → (H i).next ≤ (H j).next) (I : Inv lk nt xs E H v ρ0 h0 w0 L ρ p eS a w) {i q : Nat} {x : AOp} (hi : xs[i]? = some x) (hL : ¬ L i)
    (hq : (q = p ∧ x.isLoud = false) ∨ (q = p + 1 ∧ i = p ∧ x.isLoud = true)) (hna : ¬ (x.o.kind = .alloc ∧ guarded (E i) x.g = some true))
    (hdist : ∀ k y d, xs[k]? = some y → k ≠ i → y.d = some d → x.d ≠ some d)
    {ρ' : Rho} {w' : World} {a' : Act} (r' : Rel lk ρ' (H q) w') (s : Stp ρ (H p) w ρ' (H q) w') (e' : ER lk ρ' nt (eput eS x.d (v i)) a') :
    Inv lk nt xs E H v ρ0 h0 w0 (fun j => L j ∨ j = i) ρ' q (eput eS x.d (v i)) a' w' := by
  have him : i < xs.length := (List.getElem?_eq_some_iff.1 hi).1
  have hpq : p ≤ q := by rcases hq with ⟨h, _⟩ | ⟨h, _, _⟩ <;> omega
  have hqm : q ≤ xs.length := by have := I.pm; rcases hq with ⟨h, _⟩ | ⟨h, h', _⟩ <;> omega
  have hst := I.st.nx
  have hn1 := hH p q hpq hqm
  have hn2 := hH q xs.length hqm (Nat.le_refl _)
  have keep : ∀ {id}, (H q).next ≤ id → ρ' id = ρ id := fun h => s.ag _ (.inr h)
  have pdold : ∀ {k}, Pd xs E (fun j => L j ∨ j = i) q k → Pd xs E L p k := fun h => by
    obtain ⟨y, h1, h2, h3⟩ := h.same hi hna
    exact ⟨y, h1, by omega, h3⟩
  have pdq : ∀ {k}, Pd xs E (fun j => L j ∨ j = i) q k → (H q).next ≤ (H k).next ∧ k < xs.length := fun h => by
    obtain ⟨y, h1, h2, h3⟩ := h
    have := (List.getElem?_eq_some_iff.1 h1).1
    exact ⟨hH q _ h2 (by omega), this⟩
  have frp : ∀ id, (H p).next ≤ id → id < (H q).next → ρ id = none := fun id h1 h2 => by
    rcases I.fr id h1 (by omega) with h | ⟨k, ⟨y, y1, y2, y3, y4, y5⟩, hk⟩
    · exact h
    · exfalso
      rcases hq with ⟨rfl, _⟩ | ⟨rfl, rfl, hl⟩
      · omega
      · have hkm := (List.getElem?_eq_some_iff.1 y1).1
        rcases Nat.lt_or_ge i k with hlt | hge
        · have := hH (i + 1) k hlt (by omega); omega
        · have : k = i := by omega
          subst this
          rw [hi] at y1
          cases y1
          simp [AOp.isLoud, y4] at hl
  have hle : ρ.le ρ' := s.le frp
  refine ⟨e', r', hqm, ?_, ?_, ?_, ?_, ?_, ?_, ?_, ?_, ?_⟩
  · intro k y hk hkq hh
    rcases Nat.lt_or_ge k p with h | h
    · exact .inl (I.front k y hk h hh)
    · rcases hq with ⟨rfl, _⟩ | ⟨rfl, rfl, _⟩
      · omega
      · exact .inr (by omega)
  · intro k y hk hkq hl hor
    rcases hor with h | rfl
    · exact I.back k y hk (by omega) hl h
    · rw [hi] at hk
      cases hk
      rcases hq with ⟨_, h⟩ | ⟨rfl, rfl, _⟩
      · rw [hl] at h; cases h
      · omega
  · intro k y d hk hor hd
    by_cases e : k = i
    · subst e
      rw [hi] at hk
      cases hk
      rw [hd]
      simp [eput, eget]
    · have := hdist k y d hk e hd
      have hLk := hor.resolve_right e
      cases hxd : x.d with
      | none => exact I.es1 k y d hk hLk hd
      | some d' =>
        have : d' ≠ d := fun h => this (by rw [hxd, h])
        simp only [eput, eget, this, if_false]
        exact I.es1 k y d hk hLk hd
  · intro d hd
    have h1 := I.es2 d fun k y hk hLk => hd k y hk (.inl hLk)
    cases hxd : x.d with
    | none => exact h1
    | some d' =>
      have : d' ≠ d := fun h => hd i x hi (.inr rfl) (by rw [hxd, h])
      simpa only [eput, eget, this, if_false] using h1
  · intro id hid
    rw [s.ag id (by omega)]
    exact I.ag id hid
  · intro id h1 h2
    rw [keep h1]
    rcases I.fr id (by omega) h2 with h | ⟨k, ⟨y, y1, y2, y3, y4⟩, rfl⟩
    · exact .inl h
    · refine .inr ⟨k, ⟨y, y1, ?_, .inl y3, y4⟩, rfl⟩
      rcases hq with ⟨rfl, _⟩ | ⟨rfl, rfl, hl⟩
      · exact y2
      · rcases Nat.lt_or_ge i k with h | h
        · omega
        · have : k = i := by omega
          subst this
          exact (hL y3).elim
  · intro k hk
    obtain ⟨b, t, B, b1, b2, b3, b4, b5⟩ := I.pd k (pdold hk)
    have hkq := (pdq hk).1
    have hb : b < w.heap.size := I.rel.lt b1
    refine ⟨b, t, B, by rw [keep hkq]; exact b1, b2, ?_, fun hl => b4 (s.lv b hb hl), b5⟩
    refine one_keep b3 b1 (by rw [keep hkq]; exact b1) hle ?_ r'.lt
    exact s.sm b hb fun ⟨id, t, z, z1, z2, _⟩ => b4 ⟨id, t, z1, by rw [z2]; simp⟩
  · intro k k' b t t' hk hk' h1 h2
    rw [keep (pdq hk).1] at h1
    rw [keep (pdq hk').1] at h2
    exact I.pj k k' b t t' (pdold hk) (pdold hk') h1 h2
  · exact I.st.step (fun id hid => I.ag id (.inl hid)) s

theorem Inv.freeAt (hH : ∀ i j, i ≤ j → j ≤ xs.length → (H i).next ≤ (H j).next) (I : Inv lk nt xs E H v ρ0 h0 w0 L ρ p eS a w) {i : Nat} {x : AOp} (hi : xs[i]? = some x) (hL : ¬ L i) (hpi : p ≤ i)
    {B : Blk} (hB : H (i + 1) = (H i).alloc B) : ρ (H i).next = none := by
  have him : i < xs.length := (List.getElem?_eq_some_iff.1 hi).1
  have hn2 := hH (i + 1) xs.length him (Nat.le_refl _)
  rw [hB, next_alloc] at hn2
  rcases I.fr (H i).next (hH p i hpi (by omega)) (by omega) with h | ⟨k, hk', hke⟩
  · exact h
  · exfalso
    obtain ⟨b, t, B', _, b2, _⟩ := I.pd k hk'
    obtain ⟨y, y1, y2, y3, y4⟩ := hk'
    have hkm := (List.getElem?_eq_some_iff.1 y1).1
    rcases Nat.lt_trichotomy k i with h | rfl | h
    · have := hH (k + 1) i h (by omega)
      rw [b2, next_alloc] at this
      omega
    · exact hL y3
    · have := hH (i + 1) k h (by omega)
      rw [hB, next_alloc] at this
      omega
theorem Inv.freeOf (hH : ∀ i j, i ≤ j → j ≤ xs.length → (H i).next ≤ (H j).next) (I : Inv lk nt xs E H v ρ0 h0 w0 L ρ p eS a w) {x : AOp} (hi : xs[p]? = some x) (hl : x.isLoud = true) :
    Free ρ (H p).next (H (p + 1)).next := fun id h1 h2 => by
  have hpm := (List.getElem?_eq_some_iff.1 hi).1
  have := hH (p + 1) xs.length hpm (Nat.le_refl _)
  rcases I.fr id h1 (by omega) with h | ⟨k, ⟨y, y1, y2, y3, y4, y5⟩, hk⟩
  · exact h
  · exfalso
    have hkm := (List.getElem?_eq_some_iff.1 y1).1
    rcases Nat.lt_or_ge p k with hlt | hge
    · have := hH (p + 1) k hlt (by omega); omega
    · have : k = p := by omega
      subst this
      rw [hi] at y1
      cases y1
      simp [AOp.isLoud, y4] at hl

/-- a block made, maybe ahead of time -/
theorem Inv.pend (hH : ∀ i j, i ≤ j → j ≤ xs.length → (H i).next ≤ (H j).next) (I : Inv lk nt xs E H v ρ0 h0 w0 L ρ p eS a w) {i : Nat} {x : AOp} (hi : xs[i]? = some x) (hL : ¬ L i) (hpi : p ≤ i)
    (hk : x.o.kind = .alloc) (hg : guarded (E i) x.g = some true) {B : Blk} (hB : H (i + 1) = (H i).alloc B)
    (hdist : ∀ k y d, xs[k]? = some y → k ≠ i → y.d = some d → x.d ≠ some d)
    {ρ' : Rho} {w' : World} {a' : Act} {b0 t0 : Nat} (hid : ρ' (H i).next = some (b0, t0)) (r' : Rel lk ρ' ((⟨(H i).next, (H p).blk⟩ : AH).alloc B) w')
    (s : Stp ρ ⟨(H i).next, (H p).blk⟩ w ρ' ((⟨(H i).next, (H p).blk⟩ : AH).alloc B) w') (e' : ER lk ρ' nt (eput eS x.d (v i)) a') :
    Inv lk nt xs E H v ρ0 h0 w0 (fun j => L j ∨ j = i) ρ' p (eput eS x.d (v i)) a' w' := by
  have him : i < xs.length := (List.getElem?_eq_some_iff.1 hi).1
  have hst := I.st.nx
  have hn1 := hH p i hpi (by omega)
  have hn2 := hH (i + 1) xs.length him (Nat.le_refl _)
  rw [hB, next_alloc] at hn2
  have keep : ∀ {id}, id ≠ (H i).next → ρ' id = ρ id := fun h => s.ag _ (by simp only [next_alloc]; omega)
  -- other blocks of that kind have other numbers
  have other : ∀ {k}, Pd xs E L p k → (H k).next ≠ (H i).next := fun {k} hp e => by
    obtain ⟨b, t, B', _, b2, _⟩ := I.pd k hp
    obtain ⟨y, y1, y2, y3, y4⟩ := hp
    have hkm := (List.getElem?_eq_some_iff.1 y1).1
    rcases Nat.lt_trichotomy k i with h | rfl | h
    · have := hH (k + 1) i h (by omega)
      rw [b2, next_alloc] at this
      omega
    · exact hL y3
    · have := hH (i + 1) k h (by omega)
      rw [hB, next_alloc] at this
      omega
  have free : ρ (H i).next = none := by
    rcases I.fr (H i).next hn1 (by omega) with h | ⟨k, hk', hke⟩
    · exact h
    · exact (other hk' hke.symm).elim
  have hle : ρ.le ρ' := fun id y hy => by
    rw [keep (fun e => by rw [e, free] at hy; cases hy)]; exact hy
  have blkne : ∀ {j}, (H p).blk j ≠ none → j < (H p).next := fun h => by
    apply Classical.byContradiction
    intro hn
    exact h (I.rel.wf _ (by omega))
  have blkeq : ∀ {j}, (H p).blk j ≠ none → ((⟨(H i).next, (H p).blk⟩ : AH).alloc B).blk j = (H p).blk j := fun h => by
    have := blkne h
    exact blk_alloc_ne (h := ⟨(H i).next, (H p).blk⟩) (by show _ ≠ (H i).next; omega)
  have blki : ((⟨(H i).next, (H p).blk⟩ : AH).alloc B).blk (H i).next = some B := blk_alloc_same (⟨(H i).next, (H p).blk⟩ : AH) B
  have notlive : ¬ Live ρ' (H p) b0 := fun ⟨j, t, h1, h2⟩ => by
    have := blkne h2
    have := r'.inj h1 hid (by rw [blkeq h2]; exact h2) (by rw [blki]; simp) rfl
    omega
  have hb0 : w.heap.size ≤ b0 := by
    apply Classical.byContradiction
    intro hn
    obtain ⟨j, t, h1, h2⟩ := s.lv b0 (by omega) ⟨_, _, hid, by rw [blki]; simp⟩
    exact notlive ⟨j, t, hle _ _ h1, h2⟩
  have relp : Rel lk ρ' (H p) w' := by
    refine ⟨?_, ?_, ?_, r'.lt, I.rel.wf⟩
    · intro j b t cs ro h1 h2
      exact r'.row h1 (by rw [blkeq (by rw [h2]; simp)]; exact h2)
    · intro j b t es cl h1 h2
      exact r'.map h1 (by rw [blkeq (by rw [h2]; simp)]; exact h2)
    · intro j k b t b' t' h1 h2 h3 h4 e
      exact r'.inj h1 h2 (by rw [blkeq h3]; exact h3) (by rw [blkeq h4]; exact h4) e
  have relo : Rel lk ρ' (one (H i).next B) w' := by
    refine ⟨?_, ?_, ?_, r'.lt, ?_⟩
    · intro j b t cs ro h1 h2
      obtain ⟨rfl, rfl⟩ := one_some h2
      exact r'.row h1 blki
    · intro j b t es cl h1 h2
      obtain ⟨rfl, rfl⟩ := one_some h2
      exact r'.map h1 blki
    · intro j k b t b' t' h1 h2 h3 h4 e
      obtain ⟨B1, hb1⟩ := Option.ne_none_iff_exists'.1 h3
      obtain ⟨B2, hb2⟩ := Option.ne_none_iff_exists'.1 h4
      rw [(one_some hb1).1, (one_some hb2).1]
    · intro j hj
      simp only [one] at hj ⊢
      rw [if_neg (by omega)]
  have pdold : ∀ {k}, Pd xs E (fun j => L j ∨ j = i) p k → k = i ∨ Pd xs E L p k := fun ⟨y, h1, h2, h3, h4⟩ => by
    rcases h3 with h3 | h3
    · exact .inr ⟨y, h1, h2, h3, h4⟩
    · exact .inl h3
  refine ⟨e', relp, I.pm, ?_, ?_, ?_, ?_, ?_, ?_, ?_, ?_, ?_⟩
  · intro k y hk' hkq hh
    exact .inl (I.front k y hk' hkq hh)
  · intro k y hk' hkq hl hor
    rcases hor with h | rfl
    · exact I.back k y hk' hkq hl h
    · rw [hi] at hk'
      cases hk'
      simp [AOp.isLoud, hk] at hl
  · intro k y d hk' hor hd
    by_cases e : k = i
    · subst e
      rw [hi] at hk'
      cases hk'
      rw [hd]
      simp [eput, eget]
    · have := hdist k y d hk' e hd
      have hLk := hor.resolve_right e
      cases hxd : x.d with
      | none => exact I.es1 k y d hk' hLk hd
      | some d' =>
        have : d' ≠ d := fun h => this (by rw [hxd, h])
        simp only [eput, eget, this, if_false]
        exact I.es1 k y d hk' hLk hd
  · intro d hd
    have h1 := I.es2 d fun k y hk' hLk => hd k y hk' (.inl hLk)
    cases hxd : x.d with
    | none => exact h1
    | some d' =>
      have : d' ≠ d := fun h => hd i x hi (.inr rfl) (by rw [hxd, h])
      simpa only [eput, eget, this, if_false] using h1
  · intro id hid'
    rw [keep (by omega)]
    exact I.ag id hid'
  · intro id h1 h2
    by_cases e : id = (H i).next
    · exact .inr ⟨i, ⟨x, hi, hpi, .inr rfl, hk, hg⟩, e⟩
    · rw [keep e]
      rcases I.fr id h1 h2 with h | ⟨k, ⟨y, y1, y2, y3, y4⟩, rfl⟩
      · exact .inl h
      · exact .inr ⟨k, ⟨y, y1, y2, .inl y3, y4⟩, rfl⟩
  · intro k hk'
    rcases pdold hk' with rfl | hk'
    · exact ⟨b0, t0, B, hid, hB, relo, notlive, Nat.le_trans I.st.sz hb0⟩
    · obtain ⟨b, t, B', b1, b2, b3, b4, b5⟩ := I.pd k hk'
      have hne := other hk'
      have hb : b < w.heap.size := I.rel.lt b1
      have b1' : ρ' (H k).next = some (b, t) := by rw [keep hne]; exact b1
      refine ⟨b, t, B', b1', b2, ?_, ?_, b5⟩
      · refine one_keep b3 b1 b1' hle ?_ r'.lt
        exact s.sm b hb fun ⟨id, t, z, z1, z2, _⟩ => b4 ⟨id, t, z1, by rw [z2]; simp⟩
      · rintro ⟨j, t', h1, h2⟩
        have := blkne h2
        rw [keep (by omega)] at h1
        exact b4 ⟨j, t', h1, h2⟩
  · intro k k' b t t' hk1 hk2 h1 h2
    rcases pdold hk1 with rfl | hk1o
    · rcases pdold hk2 with rfl | hk2o
      · rfl
      · rw [hid] at h1
        cases h1
        rw [keep (other hk2o)] at h2
        have := I.rel.lt h2
        omega
    · rcases pdold hk2 with rfl | hk2o
      · rw [hid] at h2
        cases h2
        rw [keep (other hk1o)] at h1
        have := I.rel.lt h1
        omega
      · rw [keep (other hk1o)] at h1
        rw [keep (other hk2o)] at h2
        exact I.pj k k' b t t' hk1o hk2o h1 h2
  · refine ⟨I.st.nx, I.st.un, ?_, ?_, ?_, Nat.le_trans I.st.sz s.sz, s.os.trans I.st.os, s.tape.trans I.st.tape, s.output.trans I.st.output⟩
    · rintro b hb ⟨j, t, h1, h2⟩
      have := blkne h2
      rw [keep (by omega)] at h1
      exact I.st.lv b hb ⟨j, t, h1, h2⟩
    · rintro b hb ⟨j, t, z, h1, h2, h3⟩
      have := blkne (by rw [h2]; simp)
      rw [keep (by omega)] at h1
      exact I.st.wl b hb ⟨j, t, z, h1, h2, h3⟩
    · intro b hb hn
      rw [s.sm b (Nat.lt_of_lt_of_le hb I.st.sz) (fun h => hn (I.st.wl b hb h)), I.st.sm b hb hn]

/-- past an operation that made nothing -/
theorem Inv.pass (I : Inv lk nt xs E H v ρ0 h0 w0 L ρ p eS a w) (hp : p < xs.length) (hsame : H (p + 1) = H p) (hf : ∀ x, xs[p]? = some x → x.hard = true → L p)
    (hnp : ¬ Pd xs E L p p) : Inv lk nt xs E H v ρ0 h0 w0 L ρ (p + 1) eS a w := by
  have pdo : ∀ {k}, Pd xs E L (p + 1) k → Pd xs E L p k := fun ⟨y, h1, h2, h3⟩ => ⟨y, h1, by omega, h3⟩
  refine ⟨I.er, by rw [hsame]; exact I.rel, hp, ?_, ?_, I.es1, I.es2, I.ag, ?_, ?_, ?_, by rw [hsame]; exact I.st⟩
  · intro k x hk hkp hh
    rcases Nat.lt_or_ge k p with h | h
    · exact I.front k x hk h hh
    · have : k = p := by omega
      subst this
      exact hf x hk hh
  · intro k x hk hkp hl
    exact I.back k x hk (by omega) hl
  · intro id h1 h2
    rw [hsame] at h1
    rcases I.fr id h1 h2 with h | ⟨k, hk, rfl⟩
    · exact .inl h
    · refine .inr ⟨k, ?_, rfl⟩
      obtain ⟨y, y1, y2, y3⟩ := hk
      refine ⟨y, y1, ?_, y3⟩
      rcases Nat.lt_or_ge p k with h | h
      · omega
      · have : k = p := by omega
        subst this
        exact (hnp ⟨y, y1, y2, y3⟩).elim
  · intro k hk
    rw [hsame]
    exact I.pd k (pdo hk)
  · intro k k' b t t' hk hk'
    exact I.pj k k' b t t' (pdo hk) (pdo hk')
/-- past an operation whose block is there already -/
theorem Inv.take (hH : ∀ i j, i ≤ j → j ≤ xs.length → (H i).next ≤ (H j).next) (I : Inv lk nt xs E H v ρ0 h0 w0 L ρ p eS a w) (hpp : Pd xs E L p p) : Inv lk nt xs E H v ρ0 h0 w0 L ρ (p + 1) eS a w := by
  have pdo : ∀ {k}, Pd xs E L (p + 1) k → Pd xs E L p k := fun ⟨y, h1, h2, h3⟩ => ⟨y, h1, by omega, h3⟩
  obtain ⟨b0, t0, B, b1, b2, b3, b4, b5⟩ := I.pd p hpp
  obtain ⟨x, x1, x2, x3, x4⟩ := hpp
  have hp := (List.getElem?_eq_some_iff.1 x1).1
  have hst := I.st.nx
  refine ⟨I.er, by rw [b2]; exact one_absorb I.rel b3 b1 b4, hp, ?_, ?_, I.es1, I.es2, I.ag, ?_, ?_, ?_, ?_⟩
  · intro k y hk hkp hh
    rcases Nat.lt_or_ge k p with h | h
    · exact I.front k y hk h hh
    · have : k = p := by omega
      subst this
      exact x3
  · intro k y hk hkp hl
    exact I.back k y hk (by omega) hl
  · intro id h1 h2
    rw [b2, next_alloc] at h1
    rcases I.fr id (by omega) h2 with h | ⟨k, hk, rfl⟩
    · exact .inl h
    · refine .inr ⟨k, ?_, rfl⟩
      obtain ⟨y, y1, y2, y3⟩ := hk
      refine ⟨y, y1, ?_, y3⟩
      rcases Nat.lt_or_ge p k with h | h
      · omega
      · have : k = p := by omega
        subst this
        omega
  · intro k hk
    obtain ⟨b, t, B', c1, c2, c3, c4, c5⟩ := I.pd k (pdo hk)
    refine ⟨b, t, B', c1, c2, c3, ?_, c5⟩
    rw [b2]
    rintro ⟨j, t', h1, h2⟩
    by_cases e : j = (H p).next
    · subst e
      rw [b1] at h1
      cases h1
      have := I.pj k p _ _ _ (pdo hk) ⟨x, x1, x2, x3, x4⟩ c1 b1
      obtain ⟨_, _, h, _⟩ := hk
      omega
    · rw [blk_alloc_ne e] at h2
      exact c4 ⟨j, t', h1, h2⟩
  · intro k k' b t t' hk hk'
    exact I.pj k k' b t t' (pdo hk) (pdo hk')
  · rw [b2]
    refine ⟨Nat.le_trans hst (Nat.le_succ _), ?_, ?_, ?_, I.st.sm, I.st.sz, I.st.os, I.st.tape, I.st.output⟩
    · intro id hid hr
      rw [blk_alloc_ne (by omega)]
      exact I.st.un id hid hr
    · rintro b hb ⟨j, t, h1, h2⟩
      by_cases e : j = (H p).next
      · subst e
        rw [b1] at h1
        cases h1
        omega
      · rw [blk_alloc_ne e] at h2
        exact I.st.lv b hb ⟨j, t, h1, h2⟩
    · rintro b hb ⟨j, t, z, h1, h2, h3⟩
      by_cases e : j = (H p).next
      · subst e
        rw [b1] at h1
        cases h1
        omega
      · rw [blk_alloc_ne e] at h2
        exact I.st.wl b hb ⟨j, t, z, h1, h2, h3⟩
end
end Go.Proofs.Ytadbipeachcekaa.Ab
/- Regions whose order is open: the law. -/
namespace Go.Proofs.Ytadbipeachcekaa.Ab
open Go
set_option linter.unusedVariables false
section
variable {P : Program} {lk : Lk} {nt : Nat} {C : CallF} {xs : List AOp} {E : Nat → Env} {H : Nat → AH} {v : Nat → AV} {ρ0 : Rho} {h0 : AH} {w0 : World}

theorem quiet_same {x : AOp} {e : Env} {h h' : AH} {u : AV} (hq : x.hard = false) (hr : stepOp C x e h = some (u, h')) : h' = h := by
  unfold stepOp at hr
  split at hr
  · have hk : x.o.kind = .pure ∨ x.o.kind = .reader := by
      unfold AOp.hard at hq
      cases hx : x.o.kind <;> simp_all
    have ha : aop x.o e h = some (u, h') := by
      unfold exOp at hr
      split at hr
      · simp_all [AO.kind]
      · simp_all [AO.kind]
      · exact hr
    rcases hk with hk | hk
    · exact (pure_any hk ha).1
    · exact reader_same hk ha
  · cases hr; rfl
  · cases hr
theorem skip_same {x : AOp} {e : Env} {h h' : AH} {u : AV} (hg : guarded e x.g = some false) (hr : stepOp C x e h = some (u, h')) : h' = h ∧ u = .tup [] := by
  simp only [stepOp, hg] at hr
  cases hr
  exact ⟨rfl, rfl⟩
theorem step_guard {x : AOp} {e : Env} {h h' : AH} {u : AV} (hr : stepOp C x e h = some (u, h')) : guarded e x.g = some true ∨ guarded e x.g = some false := by
  unfold stepOp at hr
  split at hr
  · rename_i h; exact .inl h
  · rename_i h; exact .inr h
  · cases hr
theorem exOp_aop {o : AO} {e : Env} {h : AH} (hk : o.kind ≠ .loud) : exOp C o e h = aop o e h := by
  cases o <;> first | rfl | simp [AO.kind] at hk

theorem Tr.same (T : Tr C xs E H v) {i j : Nat} (hij : i ≤ j) (hj : j ≤ xs.length) (hn : ∀ k x, xs[k]? = some x → i ≤ k → k < j → x.hard = false) : H j = H i := by
  induction j with
  | zero => have : i = 0 := by omega
            subst this; rfl
  | succ j ih =>
    rcases Nat.lt_or_ge i (j + 1) with h | h
    · have hx : xs[j]? = some xs[j] := List.getElem?_eq_getElem (by omega)
      rw [quiet_same (hn j _ hx (by omega) (by omega)) (T.step j _ hx)]
      exact ih (by omega) (by omega) fun k x hk h1 h2 => hn k x hk h1 (by omega)
    · have : i = j + 1 := by omega
      rw [this]
theorem Tr.mono (cs : CSound P lk C) (T : Tr C xs E H v) (i j : Nat) (hij : i ≤ j) (hj : j ≤ xs.length) : (H i).next ≤ (H j).next := by
  induction j with
  | zero => have : i = 0 := by omega
            subst this; exact Nat.le_refl _
  | succ j ih =>
    rcases Nat.lt_or_ge i (j + 1) with h | h
    · have hx : xs[j]? = some xs[j] := List.getElem?_eq_getElem (by omega)
      exact Nat.le_trans (ih (by omega) (by omega)) (stepOp_nx cs (T.step j _ hx))
    · have : i = j + 1 := by omega
      rw [this]; exact Nat.le_refl _
/-- each slot is written once -/
def Dist (xs : List AOp) : Prop := ∀ (i k : Nat) (x y : AOp) (d : Nat), xs[i]? = some x → xs[k]? = some y → k ≠ i → y.d = some d → x.d ≠ some d
theorem Tr.et1 (T : Tr C xs E H v) (hd : Dist xs) {k : Nat} {y : AOp} {d : Nat} (hk : xs[k]? = some y) (hy : y.d = some d) : ∀ j, k < j → j ≤ xs.length → eget (E j) d = v k := by
  intro j
  induction j with
  | zero => intro h; omega
  | succ j ih =>
    intro h1 h2
    have hx : xs[j]? = some xs[j] := List.getElem?_eq_getElem (by omega)
    rw [T.env j _ hx]
    by_cases e : k = j
    · subst e
      rw [hk] at hx
      cases hx
      simp [hy, eput, eget]
    · have := hd j k _ _ d hx hk e hy
      cases hxd : (xs[j]'(by omega)).d with
      | none => exact ih (by omega) (by omega)
      | some d' =>
        have hne : d' ≠ d := fun h => this (by rw [hxd, h])
        simp only [eput, eget, hne, if_false]
        exact ih (by omega) (by omega)
theorem Tr.et2 (T : Tr C xs E H v) {d : Nat} : ∀ j, j ≤ xs.length → (∀ k y, xs[k]? = some y → k < j → y.d ≠ some d) → eget (E j) d = eget (E 0) d := by
  intro j
  induction j with
  | zero => intros; rfl
  | succ j ih =>
    intro h1 h2
    have hx : xs[j]? = some xs[j] := List.getElem?_eq_getElem (by omega)
    rw [T.env j _ hx]
    have := h2 j _ hx (by omega)
    cases hxd : (xs[j]'(by omega)).d with
    | none => exact ih (by omega) fun k y hk hl => h2 k y hk (by omega)
    | some d' =>
      have hne : d' ≠ d := fun h => this (by rw [hxd, h])
      simp only [eput, eget, hne, if_false]
      exact ih (by omega) fun k y hk hl => h2 k y hk (by omega)

variable {L : Nat → Prop} {ρ : Rho} {p : Nat} {eS : Env} {a : Act} {w : World}
theorem Inv.norm (cs : CSound P lk C) (T : Tr C xs E H v) : ∀ (n p : Nat), xs.length - p = n → Inv lk nt xs E H v ρ0 h0 w0 L ρ p eS a w →
    ∃ p', Inv lk nt xs E H v ρ0 h0 w0 L ρ p' eS a w ∧ ∀ x, xs[p']? = some x → x.hard = true ∧ ¬ L p' := by
  intro n
  induction n with
  | zero =>
    intro p hp I
    refine ⟨p, I, fun x hx => ?_⟩
    have := (List.getElem?_eq_some_iff.1 hx).1
    omega
  | succ n ih =>
    intro p hp I
    have hlt : p < xs.length := by omega
    have hx : xs[p]? = some xs[p] := List.getElem?_eq_getElem hlt
    have hs := T.step p _ hx
    generalize xs[p] = x at hx hs
    by_cases hh : x.hard = true
    · by_cases hL : L p
      · have hnl : x.isLoud = false := by
          cases hl : x.isLoud with
          | false => rfl
          | true => exact (I.back p x hx (Nat.le_refl _) hl hL).elim
        have hk : x.o.kind = .alloc := by
          unfold AOp.hard at hh; unfold AOp.isLoud at hnl
          cases hk : x.o.kind <;> simp_all
        rcases step_guard hs with hg | hg
        · exact ih (p + 1) (by omega) (I.take (T.mono cs) ⟨x, hx, Nat.le_refl _, hL, hk, hg⟩)
        · refine ih (p + 1) (by omega) (I.pass hlt (skip_same hg hs).1 (fun _ _ _ => hL) ?_)
          rintro ⟨y, y1, _, _, _, y5⟩
          rw [hx] at y1
          cases y1
          rw [hg] at y5
          cases y5
      · exact ⟨p, I, fun y hy => by rw [hx] at hy; cases hy; exact ⟨hh, hL⟩⟩
    · have hq : x.hard = false := by simpa using hh
      refine ih (p + 1) (by omega) (I.pass hlt (quiet_same hq hs) (fun y hy hyh => ?_) ?_)
      · rw [hx] at hy; cases hy; exact (hh hyh).elim
      · rintro ⟨y, y1, _, _, y4, _⟩
        rw [hx] at y1
        cases y1
        simp [AOp.hard, y4] at hq

/-- an operation that is ready -/
theorem Inv.go (cs : CSound P lk C) (T : Tr C xs E H v) {ops : Array Oper} {A : List Nat} (hc : chkOps P lk nt ops xs = true) (hA : ancOk A 0 ops.toList = true)
    (hpair : ∀ i k x y, xs[i]? = some x → xs[k]? = some y → pairOk A i x k y = true)
    (hread : ∀ i x q, xs[i]? = some x → q ≤ xs.length → x.isReader = true → guarded (E i) x.g = some true →
      (q = xs.length ∨ hardAt xs q = true) → (q < xs.length → bit A i q = false) → (∀ k, k < q → hardAt xs k = true → bit A k i = false) → ∃ h', aop x.o (E i) (H q) = some (v i, h'))
    (hdn : ∀ i o, ops[i]? = some o → L i → ∀ e ∈ o.after, Region.binds .any e = true → L e.on)
    {p0 : Nat} (I0 : Inv lk nt xs E H v ρ0 h0 w0 L ρ p0 eS a w) {i : Nat} {o : Oper} (ho : ops[i]? = some o) (hL : ¬ L i) (hall : ∀ e ∈ o.after, Region.binds .any e = true → L e.on)
    {K : Act → World → Prop} {Q : Exit → Act → World → Prop}
    (hK : ∀ ρ' p' eS' a' w', Inv lk nt xs E H v ρ0 h0 w0 (fun j => L j ∨ j = i) ρ' p' eS' a' w' → K a' w') : wpOp P ops Q i K a w := by
  obtain ⟨p, I, here⟩ := I0.norm cs T _ _ rfl
  have hH := T.mono cs
  have hd : Dist xs := fun i k x y d hi hk hne hy => by
    have h := hpair i k x y hi hk
    simp only [pairOk, Bool.or_eq_true, beq_iff_eq, hne, false_or, Bool.and_eq_true, hy] at h
    simpa using h.1.1
  have hlen : ops.toList.length = xs.length := (all2_sound (R := fun _ _ => True) (fun _ _ _ => trivial) hc).length.symm
  have hsz : ops.size = xs.length := by simpa using hlen
  have him : i < xs.length := by rw [← hsz]; exact (Array.getElem?_eq_some_iff.1 ho).1
  obtain ⟨x, hi⟩ : ∃ x, xs[i]? = some x := ⟨_, List.getElem?_eq_getElem him⟩
  have hch : chk1 P lk nt ops o x = true := by
    obtain ⟨o', h1, h2⟩ := (all2_sound (R := fun x o => chk1 P lk nt ops o x = true) (fun _ _ h => h) hc).get hi
    rw [Array.getElem?_toList, ho] at h1
    cases h1
    exact h2
  have anc : ∀ j, bit A i j = true → L j := anc_listed hA hdn i o ho hall
  have ancL : ∀ k, L k → k < xs.length → ∀ j, bit A k j = true → L j := fun k hk hkm j hj => by
    have hok : ops[k]? = some ops[k] := Array.getElem?_eq_getElem (by omega)
    exact anc_listed hA hdn k _ hok (hdn k _ hok hk) j hj
  have hs := T.step i x hi
  have agree : ∀ n ∈ x.reads, eget eS n = eget (E i) n := by
    intro n hn
    by_cases hex : ∃ k y, xs[k]? = some y ∧ k ≠ i ∧ y.d = some n
    · obtain ⟨k, y, hk, hne, hy⟩ := hex
      have hkm := (List.getElem?_eq_some_iff.1 hk).1
      have h := hpair i k x y hi hk
      simp only [pairOk, Bool.or_eq_true, beq_iff_eq, hne, false_or, Bool.and_eq_true, hy] at h
      have h2 := h.1.2
      simp only [Bool.not_eq_true', List.contains_eq_mem, decide_eq_false_iff_not, hn, not_true_eq_false, false_or, Nat.blt_eq] at h2
      rcases h2 with ⟨h2, h3⟩ | ⟨h2, h3⟩
      · rw [I.es1 k y n hk (anc k h3) hy, T.et1 hd hk hy i h2 (by omega)]
      · have hnl : ¬ L k := fun hl => hL (ancL k hl hkm i h3)
        rw [I.es2 n, T.et2 i (by omega)]
        · intro k' y' hk' hlt hy'
          have : k' = k := Classical.byContradiction fun hne' => hd k k' y y' n hk hk' hne' hy' hy
          omega
        · intro k' y' hk' hl hy'
          have : k' = k := Classical.byContradiction fun hne' => hd k k' y y' n hk hk' hne' hy' hy
          subst this
          exact hnl hl
    · rw [I.es2 n, T.et2 i (by omega)]
      · intro k y hk hlt hy
        exact hex ⟨k, y, hk, by omega, hy⟩
      · intro k y hk hl hy
        exact hex ⟨k, y, hk, fun e => hL (e ▸ hl), hy⟩
  have hge : x.hard = true → p ≤ i := fun hh => by
    apply Classical.byContradiction
    intro hn
    exact hL (I.front i x hi (by omega) hh)
  have dist : ∀ k y d, xs[k]? = some y → k ≠ i → y.d = some d → x.d ≠ some d := fun k y d hk hne hy => hd i k x y d hi hk hne hy
  -- nothing is made: the memory stays
  have still : x.isLoud = false → ¬ (x.o.kind = .alloc ∧ guarded (E i) x.g = some true) → stepOp C x eS (H p) = some (v i, H p) → wpOp P ops Q i K a w := fun hl hna hst => by
    refine step_sound cs I.rel I.er ho hch hst (fun id h1 h2 => by omega) fun a' w' ρ' e' r' s' _ => ?_
    exact hK _ _ _ _ _ (I.adv hH hi hL (.inl ⟨rfl, hl⟩) hna dist r' s' e')
  by_cases hloud : x.o.kind = .loud
  · have hk := hloud
    have hl : x.isLoud = true := by simp [AOp.isLoud, hk]
    have hpi : p ≤ i := hge (by simp [AOp.hard, hk])
    have hip : i = p := by
      rcases Nat.lt_or_ge p i with h | h
      · exfalso
        have hxp : xs[p]? = some xs[p] := List.getElem?_eq_getElem (by omega)
        obtain ⟨h1, h2⟩ := here _ hxp
        have hpr := hpair p i _ x hxp hi
        have hne : i ≠ p := by omega
        simp only [pairOk, Bool.or_eq_true, beq_iff_eq, hne, false_or, Bool.and_eq_true] at hpr
        have h3 := hpr.2
        simp only [h1, hl, Bool.not_true, Bool.false_eq_true, false_or, Bool.not_eq_true'] at h3
        rcases h3 with h3 | h3
        · have : Nat.blt p i = true := by simpa [Nat.blt_eq] using h
          rw [this] at h3; cases h3
        · exact h2 (anc p h3)
      · omega
    subst hip
    have hst : stepOp C x eS (H i) = some (v i, H (i + 1)) := by rw [stepOp_congr agree]; exact hs
    refine step_sound cs I.rel I.er ho hch hst (I.freeOf hH hi hl) fun a' w' ρ' e' r' s' _ => ?_
    exact hK _ _ _ _ _ (I.adv hH hi hL (.inr ⟨rfl, rfl, hl⟩) (by simp [hk]) dist r' s' e')
  rcases step_guard hs with hg | hg
  · cases hk : x.o.kind with
    | loud => exact (hloud hk).elim
    | pure =>
      refine still (by simp [AOp.isLoud, hk]) (by simp [hk]) ?_
      rw [stepOp_congr agree]
      simp only [stepOp, hg] at hs ⊢
      rw [exOp_aop (by simp [hk])] at hs ⊢
      exact (pure_any hk hs).2 _
    | reader =>
      refine still (by simp [AOp.isLoud, hk]) (by simp [hk]) ?_
      rw [stepOp_congr agree]
      have hrd : x.isReader = true := by simp [AOp.isReader, hk]
      obtain ⟨h', hr⟩ := hread i x p hi I.pm hrd hg
        (by
          rcases Nat.lt_or_ge p xs.length with h | h
          · right
            have hxp : xs[p]? = some xs[p] := List.getElem?_eq_getElem h
            simp only [hardAt, hxp]
            exact (here _ hxp).1
          · left; have := I.pm; omega)
        (fun h => by
          have hxp : xs[p]? = some xs[p] := List.getElem?_eq_getElem h
          cases hb : bit A i p with
          | false => rfl
          | true => exact ((here _ hxp).2 (anc p hb)).elim)
        (fun k hkp hkh => by
          cases hb : bit A k i with
          | false => rfl
          | true =>
            have hkm : k < xs.length := by have := I.pm; omega
            have hxk : xs[k]? = some xs[k] := List.getElem?_eq_getElem hkm
            simp only [hardAt, hxk] at hkh
            exact (hL (ancL k (I.front k _ hxk hkp hkh) hkm i hb)).elim)
      simp only [stepOp, hg]
      rw [exOp_aop (by simp [hk]), hr, reader_same hk hr]
    | alloc =>
      have hpi : p ≤ i := hge (by simp [AOp.hard, hk])
      have ha : aop x.o (E i) (H i) = some (v i, H (i + 1)) := by
        simp only [stepOp, hg] at hs
        rwa [exOp_aop (by simp [hk])] at hs
      obtain ⟨B, V, hB, hV, hany, hsh⟩ := alloc_any hk ha
      have hfree := I.freeAt hH hi hL hpi hB
      have hrel : Rel lk ρ ⟨(H i).next, (H p).blk⟩ w := by
        refine ⟨I.rel.row, I.rel.map, I.rel.inj, I.rel.lt, fun id hid => I.rel.wf id ?_⟩
        have := hH p i hpi (by omega)
        simp only at hid
        omega
      have hst : stepOp C x eS ⟨(H i).next, (H p).blk⟩ = some (v i, (⟨(H i).next, (H p).blk⟩ : AH).alloc B) := by
        rw [stepOp_congr agree]
        simp only [stepOp, hg]
        rw [exOp_aop (by simp [hk]), hany, hV]
      refine step_sound cs hrel I.er ho hch hst (fun id h1 h2 => ?_) fun a' w' ρ' e' r' s' hy => ?_
      · have : id = (H i).next := by simp only [next_alloc] at h1 h2; omega
        rw [this]; exact hfree
      · obtain ⟨y, hy⟩ := hy
        rw [hV] at hy
        obtain ⟨b, t, hbt⟩ := hsh hy
        exact hK _ _ _ _ _ (I.pend hH hi hL hpi hk hg hB dist hbt r' s' e')
  · obtain ⟨_, hv⟩ := skip_same hg hs
    refine still (by cases hk : x.o.kind <;> simp_all [AOp.isLoud]) (by simp [hg]) ?_
    rw [stepOp_congr agree]
    simp only [stepOp, hg, hv]
end
end Go.Proofs.Ytadbipeachcekaa.Ab
/- The law of the machine: a table that passes the look runs as the program does. -/
namespace Go.Proofs.Ytadbipeachcekaa.Ab
open Go
set_option linter.unusedVariables false
section
variable {P : Program} {lk : Lk} {nt : Nat} {C : CallF}

theorem ER.congr {ρ : Rho} {e e' : Env} {a : Act} (er : ER lk ρ nt e a) (h : ∀ n, eget e' n = eget e n) : ER lk ρ nt e' a := ⟨fun n => by rw [h n]; exact er.get n, er.size, er.defers⟩

theorem rc_read {xs : List AOp} {E : Nat → Env} {H : Nat → AH} {v : Nat → AV} {tr : List (Env × AH × AV)} (T : Tr C xs E H v) (hlen : tr.length = xs.length) (htr : ∀ k, k < xs.length → tr[k]? = some (E k, H k, v k))
    {A : List Nat} {rc : List (Nat × Nat)} (hr : allAt (fun i x => (List.range (xs.length + 1)).all (readOk A xs rc i x)) 0 xs = true) (hrc : rcOk xs tr (H xs.length) rc = true)
    (i : Nat) (x : AOp) (q : Nat) (hi : xs[i]? = some x) (hq : q ≤ xs.length) (hx : x.isReader = true) (hg : guarded (E i) x.g = some true) (h1 : q = xs.length ∨ hardAt xs q = true)
    (h2 : q < xs.length → bit A i q = false) (h3 : ∀ k, k < q → hardAt xs k = true → bit A k i = false) : ∃ h', aop x.o (E i) (H q) = some (v i, h') := by
  have him := (List.getElem?_eq_some_iff.1 hi).1
  have hro := allAt_get hr hi
  rw [Nat.zero_add, List.all_eq_true] at hro
  have hro := hro q (by simp; omega)
  simp only [readOk, Bool.or_eq_true, Bool.and_eq_true, Bool.not_eq_true', hx, Bool.true_eq_false, false_or] at hro
  have hk : x.o.kind = .reader := by
    unfold AOp.isReader at hx
    cases hk : x.o.kind <;> simp_all
  have hs := T.step i x hi
  have ha : aop x.o (E i) (H i) = some (v i, H (i + 1)) := by
    simp only [stepOp, hg] at hs
    rwa [exOp_aop (by simp [hk])] at hs
  rcases hro with (((hro | hro) | hro) | hro) | hro
  · rw [Bool.or_eq_false_iff] at hro
    rcases h1 with h1 | h1
    · simp [h1] at hro
    · simp [h1] at hro
  · rw [h2 (by simpa [Nat.blt_eq] using hro.1)] at hro
    cases hro.2
  · obtain ⟨k, hk1, hk2⟩ := List.any_eq_true.1 hro
    simp only [Bool.and_eq_true] at hk2
    rw [h3 k (by simpa using hk1) hk2.1] at hk2
    cases hk2.2
  · have hn : ∀ k, k < xs.length → min i q ≤ k → k < max i q → hardAt xs k = false := fun k hkm hk1 hk2 => by
      have := List.all_eq_true.1 hro k (by simpa using hkm)
      simp only [Bool.or_eq_true, Bool.not_eq_true', Nat.blt_eq, Nat.ble_eq] at this
      rcases this with (h | h) | h
      · exact h
      · omega
      · omega
    have hn' : ∀ (k : Nat) (y : AOp), xs[k]? = some y → min i q ≤ k → k < max i q → y.hard = false := fun k y hy hk1 hk2 => by
      have := hn k (List.getElem?_eq_some_iff.1 hy).1 hk1 hk2
      simpa [hardAt, hy] using this
    have : H q = H i := by
      rcases Nat.le_total i q with h | h
      · exact T.same h hq fun k y hy a b => hn' k y hy (by omega) (by omega)
      · exact (T.same h (by omega) fun k y hy a b => hn' k y hy (by omega) (by omega)).symm
    rw [this]
    exact ⟨_, ha⟩
  · have hm : (i, q) ∈ rc := by simpa using hro
    have := List.all_eq_true.1 hrc _ hm
    simp only [rcOne, hi, htr i him, hg] at this
    have hH : (((tr[q]?).map fun x => x.2.1).getD (H xs.length)) = H q := by
      rcases Nat.lt_or_ge q xs.length with h | h
      · simp [htr q h]
      · have : q = xs.length := by omega
        subst this
        simp [List.getElem?_eq_none (by omega : tr.length ≤ xs.length)]
    rw [hH] at this
    split at this
    · rename_i u h' hu
      rw [of_decide_eq_true this] at hu
      exact ⟨h', hu⟩
    · cases this

theorem regd_sound (cs : CSound P lk C) (hmix : P.follows .mixedOrders = true) {ops : Array Oper} {xs : List AOp} {rc : List (Nat × Nat)} (hc : chkRD P lk nt ops xs rc = true)
    {ρ : Rho} {e e' : Env} {h h' : AH} {a : Act} {w : World} {tr : List (Env × AH × AV)} (hr : exTr C xs e h = some (tr, e', h')) (hrc : rcOk xs tr h' rc = true)
    (r : Rel lk ρ h w) (er : ER lk ρ nt e a) (f : Free ρ h.next h'.next) {id : Nat} {Q : Exit → Act → World → Prop}
    (hQ : ∀ a' w' ρ', ER lk ρ' nt e' a' → Rel lk ρ' h' w' → Stp ρ h w ρ' h' w' → Q .normal a' w') : (Code.region id ops true).wp P Q a w := by
  obtain ⟨E, H, v, T, rfl, rfl, rfl, rfl, t1, t2⟩ := exTr_tr hr
  simp only [chkRD, Bool.and_eq_true] at hc
  obtain ⟨hc, ⟨hA, hp⟩, hrd⟩ := hc
  generalize ancs ops.toList [] = A at hA hp hrd
  have hH := T.mono cs
  have hpair : ∀ i k x y, xs[i]? = some x → xs[k]? = some y → pairOk A i x k y = true := fun i k x y hi hk => by
    have := allAt_get (allAt_get hp hi) hk
    simpa using this
  have hd : Dist xs := fun i k x y d hi hk hne hy => by
    have h := hpair i k x y hi hk
    simp only [pairOk, Bool.or_eq_true, beq_iff_eq, hne, false_or, Bool.and_eq_true, hy] at h
    simpa using h.1.1
  have hsz : ops.size = xs.length := by simpa using (all2_sound (R := fun _ _ => True) (fun _ _ _ => trivial) hc).length.symm
  refine wp_region_any hmix ?_
  have key : ∀ (fuel : Nat) (listed : Array Bool) (a' : Act) (w' : World) (ρ' : Rho) (p : Nat) (eS : Env), listed.size = xs.length → listed.toList.count false = fuel →
      (∀ i o, ops[i]? = some o → listed.getD i false = true → ∀ e ∈ o.after, Region.binds .any e = true → listed.getD e.on false = true) →
      Inv lk nt xs E H v ρ (H 0) w (fun k => listed.getD k false = true) ρ' p eS a' w' → wpAny P .any ops Q fuel listed a' w' := by
    -- all done
    have fin : ∀ (listed : Array Bool) (a' : Act) (w' : World) (ρ' : Rho) (p : Nat) (eS : Env), listed.size = xs.length → (∀ j, j < xs.length → listed.getD j false = true) →
        Inv lk nt xs E H v ρ (H 0) w (fun k => listed.getD k false = true) ρ' p eS a' w' → Q .normal a' w' := by
      intro listed a' w' ρ' p eS hs hall I0
      obtain ⟨q, I, here⟩ := I0.norm cs T _ _ rfl
      have hq : q = xs.length := by
        rcases Nat.lt_or_ge q xs.length with hlt | hge
        · exact ((here _ (List.getElem?_eq_getElem hlt)).2 (hall q hlt)).elim
        · have := I.pm; omega
      subst hq
      refine hQ a' w' ρ' (I.er.congr fun n => ?_) I.rel ⟨I.ag, I.st.nx, I.st.un, I.st.lv, I.st.wl, I.st.sm, I.st.sz, I.st.os, I.st.tape, I.st.output⟩
      by_cases hex : ∃ (k : Nat) (y : AOp), xs[k]? = some y ∧ y.d = some n
      · obtain ⟨k, y, hk, hy⟩ := hex
        have hkm := (List.getElem?_eq_some_iff.1 hk).1
        rw [T.et1 hd hk hy _ hkm (Nat.le_refl _), I.es1 k y n hk (hall k hkm) hy]
      · rw [T.et2 _ (Nat.le_refl _) fun k y hk _ hy => hex ⟨k, y, hk, hy⟩, I.es2 n fun k y hk _ hy => hex ⟨k, y, hk, hy⟩]
    have acyc : ∀ (listed : Array Bool), listed.size = xs.length → Region.ready .any ops listed = [] → ∀ j, j < xs.length → listed.getD j false = true := by
      intro listed hs hrdy j
      induction j using Nat.strongRecOn with
      | _ j ih =>
        intro hj
        apply Classical.byContradiction
        intro hn
        have hoj : ops[j]? = some (ops[j]'(by omega)) := Array.getElem?_eq_getElem (by omega)
        have : j ∈ Region.ready .any ops listed := by
          rw [mem_ready]
          refine ⟨?_, _, hoj, fun e he hb => ?_⟩
          · have hlt : j < listed.size := by omega
            simp [Array.getD, hlt] at hn ⊢
            exact hn
          · have := (ancOk_get (k := j) hA (by rw [Array.getElem?_toList]; exact hoj)).2 e (by simpa using he) hb
            exact ih e.on (by omega) (by omega)
        rw [hrdy] at this
        cases this
    intro fuel
    induction fuel with
    | zero =>
      intro listed a' w' ρ' p eS hs hcount hdn I
      have hall : ∀ j, j < xs.length → listed.getD j false = true := fun j hj => by
        have hlt : j < listed.size := by omega
        have := List.count_eq_zero.1 hcount
        have hmem : listed[j] ∈ listed.toList := by simp
        simp [Array.getD, hlt]
        cases hb : listed[j] with
        | true => rfl
        | false => rw [hb] at hmem; exact (this hmem).elim
      refine ⟨?_, fin listed a' w' ρ' p eS hs hall I⟩
      apply List.eq_nil_iff_forall_not_mem.2
      intro j hj
      obtain ⟨h1, o, ho, _⟩ := mem_ready.1 hj
      have hjm : j < xs.length := by rw [← hsz]; exact (Array.getElem?_eq_some_iff.1 ho).1
      have := hall j hjm
      have hlt : j < listed.size := by omega
      simp [Array.getD, hlt] at h1 this
      rw [h1] at this
      cases this
    | succ fuel ih =>
      intro listed a' w' ρ' p eS hs hcount hdn I
      refine ⟨fun hrdy => fin listed a' w' ρ' p eS hs (acyc listed hs hrdy) I, fun i hi => ?_⟩
      obtain ⟨h1, o, ho, hall⟩ := mem_ready.1 hi
      have him : i < xs.length := by rw [← hsz]; exact (Array.getElem?_eq_some_iff.1 ho).1
      have hlt : i < listed.size := by omega
      have hL : ¬ listed.getD i false = true := by
        simp [Array.getD, hlt] at h1 ⊢
        exact h1
      have hfalse : listed[i] = false := by simpa [Array.getD, hlt] using h1
      refine I.go cs T hc hA hpair (fun j x q => rc_read T t1 t2 hrd hrc j x q) hdn ho hL hall fun ρ2 p2 eS2 a2 w2 I2 => ?_
      have hL' : ∀ j, (listed.setIfInBounds i true).getD j false = true ↔ (listed.getD j false = true ∨ j = i) := fun j => by
        by_cases hij : j = i
        · subst hij
          simp [Array.getD, hlt]
        · rw [getD_set_ne false (fun h => hij h.symm)]
          simp [hij]
      refine ih _ a2 w2 ρ2 p2 eS2 (by simpa using hs) ?_ ?_ ?_
      · have hc2 : (listed.toList.set i true).count false = fuel := by
          rw [List.count_set (by simpa using hlt)]
          have : listed.toList[i]'(by simpa using hlt) = false := by simpa using hfalse
          simp [this, hcount]
        simpa [Array.toList_setIfInBounds] using hc2
      · intro j o' ho' hj e he hb
        rw [hL'] at hj ⊢
        rcases hj with hj | rfl
        · exact .inl (hdn j o' ho' hj e he hb)
        · rw [ho] at ho'
          cases ho'
          exact .inl (hall e he hb)
      · have : (fun k => (listed.setIfInBounds i true).getD k false = true) = fun j => (listed.getD j false = true ∨ j = i) := funext fun j => propext (hL' j)
        rw [this]
        exact I2
  refine key ops.size _ a w.drew ρ 0 (E 0) (by simp [hsz]) (by simp) ?_ ?_
  · intro i o ho h
    simp [Array.getD] at h
  · have nol : ∀ k, ¬ (Array.replicate ops.size false).getD k false = true := fun k h => by
      simp [Array.getD] at h
    refine ⟨er, r.drew, Nat.zero_le _, fun k x _ h => by omega, fun k x _ _ _ => nol k, fun k x d _ h => (nol k h).elim, fun d _ => rfl, fun _ _ => rfl, fun id h1 h2 => .inl (f id h1 h2),
      fun k ⟨_, _, _, h, _⟩ => (nol k h).elim, fun k _ _ _ _ ⟨_, _, _, h, _⟩ => (nol k h).elim, ?_⟩
    have s := Stp.drew ρ (H 0) w
    exact ⟨s.nx, s.un, s.lv, s.wl, s.sm, s.sz, s.os, s.tape, s.output⟩
end
end Go.Proofs.Ytadbipeachcekaa.Ab
/- The law of the machine: a table that passes the look runs as the program does. -/
namespace Go.Proofs.Ytadbipeachcekaa.Ab
open Go
set_option linter.unusedVariables false

/-! ### the look -/
def chkC (P : Program) (lk : Lk) (nt : Nat) : Code → AC → Bool
  | .skip, .skip => true
  | .label _, .skip => true
  | .ret, .ret => true
  | .exit i, .exit j => i == j
  | .seq a b, .seq x y => chkC P lk nt a x && chkC P lk nt b y
  | .cond c a b, .cond x y z => chkX lk c x && chkC P lk nt a y && chkC P lk nt b z
  | .block i b, .block j y => (i == j) && chkC P lk nt b y
  | .loop b, .loop y => chkC P lk nt b y
  | .scope b, y => chkC P lk nt b y
  | .region _ ops false, .reg xs _ => chkOps P lk nt ops xs
  | .region _ ops true, .regd xs rc _ => chkRD P lk nt ops xs rc
  | _, _ => false
def chkR (P : Program) : ResultVar → RV → Bool
  | .tmp t, .t n => t == n
  | .cell a ty, .cell n sz => (a == n) && ldK P ty sz
  | _, _ => false
def chkFn (P : Program) (lk : Lk) (fn : Func) (F : AFun) : Bool :=
  !(fn.name == "runtime.NumGoroutine") && Nat.ble F.np fn.ntmps && all2 (chkR P) fn.results.toList F.res && (match fn.body with | some c => chkC P lk fn.ntmps c F.body | none => false)
def chkF (P : Program) (lk : Lk) (f : Nat) (F : AFun) : Bool :=
  match lk f with
  | some g => (match P.funcs[g]? with | some fn => chkFn P lk fn F | none => false)
  | none => false

section
variable {P : Program} {lk : Lk} {nt : Nat} {C : CallF}
def XT.of : XT → Exit
  | .nrm => .normal
  | .ret => .ret
  | .ex i => .exit i
theorem exTr_nx (cs : CSound P lk C) : ∀ {xs : List AOp} {e e' : Env} {h h' : AH} {tr : List (Env × AH × AV)}, exTr C xs e h = some (tr, e', h') → h.next ≤ h'.next := fun hr => by
  obtain ⟨E, H, v, T, rfl, rfl, rfl, rfl, t1, t2⟩ := exTr_tr hr
  exact T.mono cs _ _ (Nat.zero_le _) (Nat.le_refl _)
theorem exL_nx {B : Env → AH → Option (XT × Env × AH)} (hB : ∀ {e h t e' h'}, B e h = some (t, e', h') → h.next ≤ h'.next) : ∀ {n : Nat} {e : Env} {h : AH} {t : XT} {e' : Env} {h' : AH}, exL B n e h = some (t, e', h') → h.next ≤ h'.next
  | 0, e, h, t, e', h', hr => by cases hr
  | n + 1, e, h, t, e', h', hr => by
    simp only [exL] at hr
    split at hr
    · rename_i h1; exact Nat.le_trans (hB h1) (exL_nx hB hr)
    · rename_i h1; cases hr; exact hB h1
    · rename_i h1; cases hr; exact hB h1
    · cases hr
theorem exC_nx (cs : CSound P lk C) {n : Nat} : ∀ {c : AC} {e : Env} {h : AH} {t : XT} {e' : Env} {h' : AH}, exC C n c e h = some (t, e', h') → h.next ≤ h'.next
  | .skip, e, h, t, e', h', hr => by cases hr; exact Nat.le_refl _
  | .ret, e, h, t, e', h', hr => by cases hr; exact Nat.le_refl _
  | .exit _, e, h, t, e', h', hr => by cases hr; exact Nat.le_refl _
  | .seq a b, e, h, t, e', h', hr => by
    simp only [exC] at hr
    split at hr
    · rename_i h1; exact Nat.le_trans (exC_nx cs h1) (exC_nx cs hr)
    · rename_i h1; cases hr; exact exC_nx cs h1
    · rename_i h1; cases hr; exact exC_nx cs h1
    · cases hr
  | .cond c a b, e, h, t, e', h', hr => by
    simp only [exC] at hr
    split at hr
    · exact exC_nx cs hr
    · exact exC_nx cs hr
    · cases hr
  | .block i b, e, h, t, e', h', hr => by
    simp only [exC] at hr
    split at hr
    · rename_i h1; split at hr <;> cases hr <;> exact exC_nx cs h1
    · rename_i h1; cases hr; exact exC_nx cs h1
    · rename_i h1; cases hr; exact exC_nx cs h1
    · cases hr
  | .loop b, e, h, t, e', h', hr => by
    simp only [exC] at hr
    exact exL_nx (exC_nx cs (c := b)) hr
  | .reg ops kp, e, h, t, e', h', hr => by
    simp only [exC] at hr
    split at hr
    · rename_i h1; cases hr; exact exOps_nx cs h1
    · cases hr
  | .regd ops rc kp, e, h, t, e', h', hr => by
    simp only [exC] at hr
    split at hr
    · rename_i h1
      split at hr
      · cases hr; exact exTr_nx cs h1
      · cases hr
    · cases hr

/-- where code arrives -/
def Post (P : Program) (lk : Lk) (nt : Nat) (ρ : Rho) (h : AH) (w : World) (t : XT) (e' : Env) (h' : AH) : Exit → Act → World → Prop :=
  fun X a' w' => X = t.of ∧ ∃ ρ', ER lk ρ' nt e' a' ∧ Rel lk ρ' h' w' ∧ Stp ρ h w ρ' h' w'

theorem exL_sound {B : Env → AH → Option (XT × Env × AH)} {c : Code} (hB : ∀ {e h t e' h'}, B e h = some (t, e', h') → h.next ≤ h'.next)
    (hc : ∀ {e h t e' h'}, B e h = some (t, e', h') → ∀ {ρ a w}, Rel lk ρ h w → ER lk ρ nt e a → Free ρ h.next h'.next → c.wp P (Post P lk nt ρ h w t e' h') a w) :
    ∀ {n : Nat} {e : Env} {h : AH} {t : XT} {e' : Env} {h' : AH}, exL B n e h = some (t, e', h') → ∀ {ρ : Rho} {a : Act} {w : World}, Rel lk ρ h w → ER lk ρ nt e a → Free ρ h.next h'.next →
      Code.rounds P c (Post P lk nt ρ h w t e' h') n a w
  | 0, e, h, t, e', h', hr, ρ, a, w, r, er, f => by cases hr
  | n + 1, e, h, t, e', h', hr, ρ, a, w, r, er, f => by
    rw [rounds_succ]
    simp only [exL] at hr
    split at hr
    · rename_i e1 h1 hb
      refine wp_mono (hc hb r er (f.fst (exL_nx hB hr))) ?_
      rintro X a1 w1 ⟨rfl, ρ1, er1, r1, s1⟩
      show Code.rounds P c _ n a1 w1
      have := exL_sound hB hc hr r1 er1 (Free.snd s1 f)
      have mono : ∀ (n : Nat) (a : Act) (w' : World), Code.rounds P c (Post P lk nt ρ1 h1 w1 t e' h') n a w' → Code.rounds P c (Post P lk nt ρ h w t e' h') n a w' := by
        intro n
        induction n with
        | zero => intro a w' hh; exact hh
        | succ n ih =>
          intro a w' hh
          rw [rounds_succ] at hh ⊢
          refine wp_mono hh ?_
          intro X a2 w2 hX
          have lift : Post P lk nt ρ1 h1 w1 t e' h' X a2 w2 → Post P lk nt ρ h w t e' h' X a2 w2 := fun ⟨p1, ρ2, p2, p3, p4⟩ => ⟨p1, ρ2, p2, p3, s1.trans p4⟩
          cases X with
          | normal => exact ih a2 w2 hX
          | _ => exact lift hX
      exact mono n a1 w1 this
    · rename_i hb
      cases hr
      refine wp_mono (hc hb r er f) ?_
      rintro X a1 w1 ⟨rfl, h1⟩
      exact ⟨rfl, h1⟩
    · rename_i hb
      cases hr
      refine wp_mono (hc hb r er f) ?_
      rintro X a1 w1 ⟨rfl, h1⟩
      exact ⟨rfl, h1⟩
    · cases hr

theorem exC_sound (cs : CSound P lk C) (hmix : P.follows .mixedOrders = true) {n : Nat} : ∀ (c : Code) {x : AC}, chkC P lk nt c x = true → ∀ {e : Env} {h : AH} {t : XT} {e' : Env} {h' : AH}, exC C n x e h = some (t, e', h') →
    ∀ {ρ : Rho} {a : Act} {w : World}, Rel lk ρ h w → ER lk ρ nt e a → Free ρ h.next h'.next → c.wp P (Post P lk nt ρ h w t e' h') a w := by
  intro c
  induction c with
  | skip =>
    intro x hc e h t e' h' hr ρ a w r er f
    cases x <;> simp only [chkC] at hc <;> try contradiction
    cases hr
    exact wp_skip ⟨rfl, ρ, er, r, .refl _ _ _⟩
  | label l =>
    intro x hc e h t e' h' hr ρ a w r er f
    cases x <;> simp only [chkC] at hc <;> try contradiction
    cases hr
    exact wp_label ⟨rfl, ρ, er, r, .refl _ _ _⟩
  | ret =>
    intro x hc e h t e' h' hr ρ a w r er f
    cases x <;> simp only [chkC] at hc <;> try contradiction
    cases hr
    exact wp_ret ⟨rfl, ρ, er, r, .refl _ _ _⟩
  | exit i =>
    intro x hc e h t e' h' hr ρ a w r er f
    cases x <;> simp only [chkC] at hc <;> try contradiction
    simp only [beq_iff_eq] at hc
    subst hc
    cases hr
    exact wp_exit ⟨rfl, ρ, er, r, .refl _ _ _⟩
  | seq a b iha ihb =>
    intro x hc e h t e' h' hr ρ ac w r er f
    cases x <;> simp only [chkC] at hc <;> try contradiction
    rename_i xa xb
    simp only [Bool.and_eq_true] at hc
    simp only [exC] at hr
    refine wp_seq ?_
    split at hr
    · rename_i e1 h1 hx
      refine wp_mono (iha hc.1 hx r er (f.fst (exC_nx cs hr))) ?_
      rintro X a1 w1 ⟨rfl, ρ1, er1, r1, s1⟩
      refine wp_mono (ihb hc.2 hr r1 er1 (Free.snd s1 f)) ?_
      rintro X a2 w2 ⟨rfl, ρ2, er2, r2, s2⟩
      exact ⟨rfl, ρ2, er2, r2, s1.trans s2⟩
    · rename_i hx
      cases hr
      refine wp_mono (iha hc.1 hx r er f) ?_
      rintro X a1 w1 ⟨rfl, h1⟩
      exact ⟨rfl, h1⟩
    · rename_i hx
      cases hr
      refine wp_mono (iha hc.1 hx r er f) ?_
      rintro X a1 w1 ⟨rfl, h1⟩
      exact ⟨rfl, h1⟩
    · cases hr
  | cond q a b iha ihb =>
    intro x hc e h t e' h' hr ρ ac w r er f
    cases x <;> simp only [chkC] at hc <;> try contradiction
    simp only [Bool.and_eq_true] at hc
    simp only [exC] at hr
    have hq := chkX_sound hc.1.1 er
    split at hr
    · rename_i hv
      rw [hv] at hq
      exact wp_cond_true hq.b (iha hc.1.2 hr r er f)
    · rename_i hv
      rw [hv] at hq
      exact wp_cond_false hq.b (ihb hc.2 hr r er f)
    · cases hr
  | block i b ih =>
    intro x hc e h t e' h' hr ρ a w r er f
    cases x <;> simp only [chkC] at hc <;> try contradiction
    simp only [Bool.and_eq_true, beq_iff_eq] at hc
    obtain ⟨rfl, hc⟩ := hc
    simp only [exC] at hr
    refine wp_block ?_
    split at hr
    · rename_i j e1 h1 hx
      split at hr
      · rename_i hj
        cases hr
        refine wp_mono (ih hc hx r er f) ?_
        rintro X a1 w1 ⟨rfl, p⟩
        simp only [XT.of, Exit.inBlock, hj, if_true]
        exact ⟨rfl, p⟩
      · rename_i hj
        cases hr
        refine wp_mono (ih hc hx r er f) ?_
        rintro X a1 w1 ⟨rfl, p⟩
        simp only [XT.of, Exit.inBlock, hj, if_false]
        exact ⟨rfl, p⟩
    · rename_i hx
      cases hr
      refine wp_mono (ih hc hx r er f) ?_
      rintro X a1 w1 ⟨rfl, p⟩
      exact ⟨rfl, p⟩
    · rename_i hx
      cases hr
      refine wp_mono (ih hc hx r er f) ?_
      rintro X a1 w1 ⟨rfl, p⟩
      exact ⟨rfl, p⟩
    · cases hr
  | loop b ih =>
    intro x hc e h t e' h' hr ρ a w r er f
    cases x <;> simp only [chkC] at hc <;> try contradiction
    simp only [exC] at hr
    exact wp_loop_rounds n (exL_sound (exC_nx cs) (fun {_ _ _ _ _} hb {_ _ _} r er f => ih hc hb r er f) hr r er f)
  | scope b ih =>
    intro x hc e h t e' h' hr ρ a w r er f
    have hc : chkC P lk nt b x = true := by cases x <;> exact hc
    refine wp_scope_straight (wp_mono (ih hc hr r er f) ?_)
    rintro X a1 w1 ⟨rfl, p⟩
    cases t <;> exact ⟨rfl, p⟩
  | region id ops dr =>
    intro x hc e h t e' h' hr ρ a w r er f
    cases dr with
    | false =>
      cases x <;> simp only [chkC] at hc <;> try contradiction
      rename_i xs kp
      simp only [exC] at hr
      split at hr
      · rename_i e1 h1 hx
        cases hr
        have := exOps_sound cs (Q := Post P lk nt ρ h w .nrm (keepE kp e1) h') (k := 0) (l := ops.toList) (by simp) hc hx r er f fun a' w' ρ' er' r' s' => ⟨rfl, ρ', er'.keep kp, r', s'⟩
        refine wp_region ?_
        rw [List.range_eq_range']
        simpa using this
      · cases hr
    | true =>
      cases x <;> simp only [chkC] at hc <;> try contradiction
      rename_i xs rc kp
      simp only [exC] at hr
      split at hr
      · rename_i tr e1 h1 hx
        split at hr
        · rename_i hrc
          cases hr
          exact regd_sound cs hmix hc hx hrc r er f fun a' w' ρ' er' r' s' => ⟨rfl, ρ', er'.keep kp, r', s'⟩
        · cases hr
      · cases hr
  | _ =>
    intro x hc
    cases x <;> simp [chkC] at hc

/-! ### results, functions, the table -/
theorem bindA_get : ∀ {args : List AV} {k n : Nat}, eget (bindA k args) n = if k ≤ n ∧ n < k + args.length then args.getD (n - k) .un else .un
  | [], k, n => by simp [bindA, eget]
  | v :: r, k, n => by
    simp only [bindA, eget, List.length_cons]
    by_cases h : k = n
    · subst h
      rw [if_pos rfl, if_pos ⟨Nat.le_refl _, by omega⟩]
      simp
    · rw [if_neg h, bindA_get]
      by_cases h2 : k + 1 ≤ n ∧ n < k + 1 + r.length
      · rw [if_pos h2, if_pos ⟨by omega, by omega⟩]
        obtain ⟨m, rfl⟩ : ∃ m, n = k + 1 + m := ⟨n - (k + 1), by omega⟩
        rw [show k + 1 + m - k = m + 1 by omega, show k + 1 + m - (k + 1) = m by omega]
        simp
      · rw [if_neg h2, if_neg (by omega)]
theorem ER.enter {ρ : Rho} {args : List AV} {xs : Array Value} (hf : F2 (VE lk ρ) args xs.toList) (hn : args.length ≤ nt) :
    ER lk ρ nt (bindA 0 args) { tmps := xs ++ Array.replicate (nt - xs.size) undef, defers := [] } := by
  have hl : args.length = xs.size := by simpa using hf.length
  refine ⟨fun n => ?_, by simp; omega, rfl⟩
  rw [bindA_get]
  by_cases h : n < args.length
  · rw [if_pos ⟨Nat.zero_le _, by omega⟩]
    obtain ⟨y, hy, hv⟩ := hf.get (j := n) (x := args[n]) (List.getElem?_eq_getElem h)
    rw [Array.getElem?_toList] at hy
    have hn' : n < xs.size := by omega
    have : (xs ++ Array.replicate (nt - xs.size) undef).getD n undef = y := by
      rw [Array.getD_eq_getD_getElem?, Array.getElem?_append_left hn', hy]; rfl
    simp only [Nat.sub_zero, List.getD_eq_getElem?_getD, List.getElem?_eq_getElem h, Option.getD_some]
    simp only [this]
    exact hv
  · rw [if_neg (by omega)]
    exact .of (.un _)

theorem tie_sound {ρ : Rho} {vs : List AV} {xs : Array Value} (h : F2 (VE lk ρ) vs xs.toList) {v : AV} (ht : tie vs = some v) : VE lk ρ v (if h : xs.size = 1 then xs[0] else .tuple xs) := by
  have many : vs.any AV.isTup = false → F2 (VO lk ρ) vs xs.toList := by
    generalize xs.toList = ys at h
    clear ht
    intro hn
    induction vs generalizing ys with
    | nil => cases ys with | nil => trivial | cons => exact h.elim
    | cons u us ih =>
      cases ys with
      | nil => exact h.elim
      | cons y ys =>
        simp only [List.any_cons, Bool.or_eq_false_iff] at hn
        refine ⟨?_, ih ys h.2 hn.2⟩
        cases h.1 with
        | of h => exact h
        | tup h => simp [AV.isTup] at hn
  have hl : vs.length = xs.size := by simpa using h.length
  match vs, ht with
  | [u], ht =>
    simp [tie] at ht
    subst ht
    have h1 : xs.size = 1 := by simpa using hl.symm
    rw [dif_pos h1]
    obtain ⟨y, hy, hv⟩ := h.get (j := 0) (x := u) rfl
    rw [Array.getElem?_toList] at hy
    have : xs[0] = y := by
      rw [Array.getElem?_eq_getElem (by omega)] at hy
      exact Option.some.inj hy
    rw [this]
    exact hv
  | [], ht =>
    simp [tie] at ht
    subst ht
    rw [dif_neg (by simp at hl; omega)]
    exact .tup (many rfl)
  | a :: b :: r, ht =>
    simp only [tie] at ht
    split at ht
    · cases ht
    · rename_i hn
      cases ht
      rw [dif_neg (by simp at hl; omega)]
      exact .tup (many (by simpa using hn))

def rvRun (a : Act) : ResultVar → Sem Value
  | .tmp t => pure (a.tmps.getD t undef)
  | .cell b t => do loadVar t (← asAddr (a.tmps.getD b undef))
theorem ress_sound {ρ : Rho} {e : Env} {h : AH} {a : Act} {w : World} (r : Rel lk ρ h w) (er : ER lk ρ nt e a) : ∀ {rs : List ResultVar} {xs : List RV} {vs : List AV}, all2 (chkR P) rs xs = true → aress xs e h = some vs →
    ∃ ys : List Value, (rs.mapM (rvRun a)).run P w = .ok ys w ∧ F2 (VE lk ρ) vs ys
  | [], [], vs, hc, hr => by simp [aress] at hr; subst hr; exact ⟨[], by simp, trivial⟩
  | [], _ :: _, vs, hc, hr => by simp [all2] at hc
  | _ :: _, [], vs, hc, hr => by simp [all2] at hc
  | q :: rs, x :: xs, vs, hc, hr => by
    simp only [all2, Bool.and_eq_true] at hc
    simp only [aress] at hr
    split at hr
    · rename_i v vs' h1 h2
      cases hr
      obtain ⟨ys, h3, h4⟩ := ress_sound r er hc.2 h2
      have hone : ∃ y, (rvRun a q).run P w = .ok y w ∧ VE lk ρ v y := by
        have hq := hc.1
        cases q with
        | tmp t =>
          cases x with
          | t n =>
            simp only [chkR, beq_iff_eq] at hq
            subst hq
            simp only [ares, Option.some.injEq] at h1
            subst h1
            exact ⟨_, by simp [rvRun], er.get _⟩
          | cell n sz => cases hq
        | cell b ty =>
          cases x with
          | t n => cases hq
          | cell n sz =>
            simp only [chkR, Bool.and_eq_true, beq_iff_eq] at hq
            obtain ⟨rfl, hq⟩ := hq
            simp only [ares, Option.map_eq_some_iff] at h1
            obtain ⟨⟨v', h''⟩, h5, rfl⟩ := h1
            obtain ⟨y, h6, h7, _⟩ := aload_sound (P := P) r hq (er.get b) h5
            obtain ⟨id, off, hptr⟩ : ∃ id off, eget e b = .ptr id off := by
              unfold aload at h5
              split at h5
              · exact ⟨_, _, by assumption⟩
              · exact ⟨_, _, by assumption⟩
              · cases h5
            have hv := er.get b
            rw [hptr] at hv
            obtain ⟨bb, tt, _, hx⟩ := hv.ptr
            refine ⟨y, ?_, h7⟩
            simp only [rvRun, hx] at h6 ⊢
            simpa [Instr.loadAt, Instr.sureAddr, asAddr] using h6
      obtain ⟨y, h5, h6⟩ := hone
      refine ⟨y :: ys, ?_, h6, h4⟩
      rw [List.mapM_cons]
      simp only [Sem.run_bind, h5, Result.andThen_ok, h3]
      simp
    · cases hr

theorem exF_sound (cs : CSound P lk C) (hmix : P.follows .mixedOrders = true) {n f : Nat} {F : AFun} (hc : chkF P lk f F = true) {args : List AV} {h h' : AH} {v : AV} (hr : exF C n F args h = some (v, h')) : CallsOk P lk f args h v h' := by
  unfold chkF at hc
  split at hc
  · rename_i g hg
    split at hc
    · rename_i fn hfn
      simp only [chkFn, Bool.and_eq_true, Bool.not_eq_true', beq_eq_false_iff_ne, ne_eq, Nat.ble_eq] at hc
      obtain ⟨⟨⟨hname, hnp⟩, hres⟩, hbody⟩ := hc
      split at hbody
      · rename_i c hcode
        refine ⟨g, fn, hg, hfn, hname, by simp [hcode], fun ρ w xs r hf free => ?_⟩
        unfold exF at hr
        split at hr
        · rename_i hlen
          refine calls_of_wp hfn hcode ?_
          have er := ER.enter (nt := fn.ntmps) hf (by omega)
          have fin : ∀ {t e1 h1 vs}, (t = .nrm ∨ t = .ret) → exC C n F.body (bindA 0 args) h = some (t, e1, h1) → aress F.res e1 h1 = some vs → (tie vs).map (fun v => (v, h1)) = some (v, h') →
              c.wp P (bodyPost P fn fun e w' => ∃ x ρ', e = .returned x ∧ VE lk ρ' v x ∧ Rel lk ρ' h' w' ∧ Stp ρ h w ρ' h' w') { tmps := xs ++ Array.replicate (fn.ntmps - xs.size) undef, defers := [] } w := by
            intro t e1 h1 vs ht hx hv htie
            simp only [Option.map_eq_some_iff, Prod.mk.injEq] at htie
            obtain ⟨v', htie, rfl, rfl⟩ := htie
            refine wp_mono (exC_sound cs hmix c hbody hx r er free) ?_
            rintro X a1 w1 ⟨rfl, ρ1, er1, r1, s1⟩
            obtain ⟨ys, h3, h4⟩ := ress_sound (P := P) r1 er1 hres hv
            have hrun : (results fn a1.tmps).run P w1 = .ok (if h : ys.toArray.size = 1 then ys.toArray[0] else .tuple ys.toArray) w1 := by
              have he : results fn a1.tmps = (do let vs ← fn.results.mapM (rvRun a1); pure (if h : vs.size = 1 then vs[0] else .tuple vs)) := rfl
              rw [he, Array.mapM_eq_mapM_toList]
              simp only [Sem.run_bind, Sem.run_map, h3, Result.andThen_ok]
              simp
            have hb : a1.defers = [] ∧ ∃ u, (results fn a1.tmps).run P w1 = .ok u w1 ∧ ∃ x ρ', Ending.returned u = .returned x ∧ VE lk ρ' v' x ∧ Rel lk ρ' h1 w1 ∧ Stp ρ h w ρ' h1 w1 :=
              ⟨er1.defers, _, hrun, _, ρ1, rfl, tie_sound (by simpa using h4) htie, r1, s1⟩
            rcases ht with rfl | rfl <;> exact hb
          split at hr
          · rename_i e1 h1 hx
            split at hr
            · rename_i vs hv; exact fin (.inl rfl) hx hv hr
            · cases hr
          · rename_i e1 h1 hx
            split at hr
            · rename_i vs hv; exact fin (.inr rfl) hx hv hr
            · cases hr
          · cases hr
        · cases hr
      · cases hbody
    · cases hc
  · cases hc
theorem exF_nx (cs : CSound P lk C) {n : Nat} {F : AFun} {args : List AV} {h h' : AH} {v : AV} (hr : exF C n F args h = some (v, h')) : h.next ≤ h'.next := by
  unfold exF at hr
  split at hr
  · split at hr
    · rename_i hx
      split at hr
      · simp only [Option.map_eq_some_iff, Prod.mk.injEq] at hr
        obtain ⟨_, _, _, rfl⟩ := hr
        exact exC_nx cs hx
      · cases hr
    · rename_i hx
      split at hr
      · simp only [Option.map_eq_some_iff, Prod.mk.injEq] at hr
        obtain ⟨_, _, _, rfl⟩ := hr
        exact exC_nx cs hx
      · cases hr
    · cases hr
  · cases hr

/-- a table that the program has -/
def TOk (P : Program) (lk : Lk) (T : AT) : Prop := ∀ f, match T f with
  | some (.fn F) => chkF P lk f F = true
  | some (.spec g) => ∀ args v, g args = some v → ∀ h, CallsOk P lk f args h v h
  | none => True
theorem exN_sound {T : AT} (hT : TOk P lk T) (hmix : P.follows .mixedOrders = true) : ∀ n, CSound P lk (exN T n)
  | 0 => ⟨fun h => by simp [exN] at h, fun h => by simp [exN] at h⟩
  | n + 1 => by
    have cs := exN_sound hT hmix n
    refine ⟨fun {f args h v h'} hr => ?_, fun {f args h v h'} hr => ?_⟩
    · have ht := hT f
      simp only [exN] at hr
      split at hr
      · rename_i F hF
        rw [hF] at ht
        exact exF_sound cs hmix ht hr
      · rename_i g hg
        rw [hg] at ht
        simp only [Option.map_eq_some_iff, Prod.mk.injEq] at hr
        obtain ⟨v', h1, rfl, rfl⟩ := hr
        exact ht args v' h1 h
      · cases hr
    · simp only [exN] at hr
      split at hr
      · exact exF_nx cs hr
      · simp only [Option.map_eq_some_iff, Prod.mk.injEq] at hr
        obtain ⟨v', h1, rfl, rfl⟩ := hr
        exact Nat.le_refl _
      · cases hr
end
end Go.Proofs.Ytadbipeachcekaa.Ab
/- A logic for the machine: what a call, a piece of code, a list of operations comes to, with enough fuel. -/
namespace Go.Proofs.Ytadbipeachcekaa.Ab
open Go
set_option linter.unusedVariables false

/-! ### more fuel does no harm -/
def CLe (C D : CallF) : Prop := ∀ f args h r, C f args h = some r → D f args h = some r
theorem CLe.refl (C : CallF) : CLe C C := fun _ _ _ _ h => h
theorem CLe.trans {A B C : CallF} (h : CLe A B) (g : CLe B C) : CLe A C := fun _ _ _ _ r => g _ _ _ _ (h _ _ _ _ r)
theorem exOp_le {C D : CallF} (hl : CLe C D) {o : AO} {e : Env} {h : AH} {r : AV × AH} (hr : exOp C o e h = some r) : exOp D o e h = some r := by
  unfold exOp at hr ⊢
  split at hr
  · exact hl _ _ _ _ hr
  · split at hr
    · exact hl _ _ _ _ hr
    · cases hr
  · exact hr
theorem stepOp_le {C D : CallF} (hl : CLe C D) {o : AOp} {e : Env} {h : AH} {r : AV × AH} (hr : stepOp C o e h = some r) : stepOp D o e h = some r := by
  unfold stepOp at hr ⊢
  split at hr
  · exact exOp_le hl hr
  · exact hr
  · cases hr
theorem exOps_le {C D : CallF} (hl : CLe C D) : ∀ {l : List AOp} {e : Env} {h : AH} {r : Env × AH}, exOps C l e h = some r → exOps D l e h = some r
  | [], e, h, r, hr => hr
  | o :: l, e, h, r, hr => by
    simp only [exOps] at hr ⊢
    split at hr
    · rename_i hs
      rw [stepOp_le hl hs]
      exact exOps_le hl hr
    · cases hr
theorem exTr_le {C D : CallF} (hl : CLe C D) : ∀ {l : List AOp} {e : Env} {h : AH} {r : List (Env × AH × AV) × Env × AH}, exTr C l e h = some r → exTr D l e h = some r
  | [], e, h, r, hr => hr
  | o :: l, e, h, r, hr => by
    simp only [exTr] at hr ⊢
    split at hr
    · rename_i hs
      rw [stepOp_le hl hs]
      split at hr
      · rename_i ht
        simp only [exTr_le hl ht]
        exact hr
      · cases hr
    · cases hr
theorem exL_le {B B' : Env → AH → Option (XT × Env × AH)} (hB : ∀ {e h r}, B e h = some r → B' e h = some r) : ∀ {n m : Nat} {e : Env} {h : AH} {r : XT × Env × AH}, n ≤ m → exL B n e h = some r → exL B' m e h = some r
  | 0, m, e, h, r, hn, hr => by cases hr
  | n + 1, 0, e, h, r, hn, hr => by omega
  | n + 1, m + 1, e, h, r, hn, hr => by
    simp only [exL] at hr ⊢
    split at hr
    · rename_i hb; rw [hB hb]; exact exL_le hB (by omega) hr
    · rename_i hb; rw [hB hb]; exact hr
    · rename_i hb; rw [hB hb]; exact hr
    · cases hr
theorem exC_le {C D : CallF} (hl : CLe C D) {n m : Nat} (hn : n ≤ m) : ∀ {c : AC} {e : Env} {h : AH} {r : XT × Env × AH}, exC C n c e h = some r → exC D m c e h = some r
  | .skip, e, h, r, hr => hr
  | .ret, e, h, r, hr => hr
  | .exit _, e, h, r, hr => hr
  | .seq a b, e, h, r, hr => by
    simp only [exC] at hr ⊢
    split at hr
    · rename_i ha; rw [exC_le hl hn ha]; exact exC_le hl hn hr
    · rename_i ha; rw [exC_le hl hn ha]; exact hr
    · rename_i ha; rw [exC_le hl hn ha]; exact hr
    · cases hr
  | .cond c a b, e, h, r, hr => by
    simp only [exC] at hr ⊢
    split at hr
    · exact exC_le hl hn hr
    · exact exC_le hl hn hr
    · cases hr
  | .block i b, e, h, r, hr => by
    simp only [exC] at hr ⊢
    split at hr
    · rename_i hb; rw [exC_le hl hn hb]; exact hr
    · rename_i hb; rw [exC_le hl hn hb]; exact hr
    · rename_i hb; rw [exC_le hl hn hb]; exact hr
    · cases hr
  | .loop b, e, h, r, hr => by
    simp only [exC] at hr ⊢
    exact exL_le (fun hb => exC_le hl hn hb) hn hr
  | .reg ops kp, e, h, r, hr => by
    simp only [exC] at hr ⊢
    split at hr
    · rename_i ho; rw [exOps_le hl ho]; exact hr
    · cases hr
  | .regd ops rc kp, e, h, r, hr => by
    simp only [exC] at hr ⊢
    split at hr
    · rename_i ho; rw [exTr_le hl ho]; exact hr
    · cases hr
theorem exF_le {C D : CallF} (hl : CLe C D) {n m : Nat} (hn : n ≤ m) {F : AFun} {args : List AV} {h : AH} {r : AV × AH} (hr : exF C n F args h = some r) : exF D m F args h = some r := by
  unfold exF at hr ⊢
  split at hr
  · rename_i hlen
    rw [if_pos hlen]
    split at hr
    · rename_i hc; rw [exC_le hl hn hc]; exact hr
    · rename_i hc; rw [exC_le hl hn hc]; exact hr
    · cases hr
  · cases hr
theorem exN_le {T : AT} : ∀ {n m : Nat}, n ≤ m → CLe (exN T n) (exN T m)
  | 0, m, _, f, args, h, r, hr => by simp [exN] at hr
  | n + 1, 0, hn, f, args, h, r, hr => by omega
  | n + 1, m + 1, hn, f, args, h, r, hr => by
    have ih : CLe (exN T n) (exN T m) := exN_le (by omega)
    simp only [exN] at hr ⊢
    split at hr
    · exact exF_le ih (by omega) hr
    · exact hr
    · cases hr

/-- a function that takes nothing and always gives the same -/
def always (v : AV) : List AV → Option AV
  | [] => some v
  | _ => none
/-! ### what code comes to -/
structure Ret (T : AT) (f : Nat) (args : List AV) (h : AH) (R : AV → AH → Prop) : Prop where
  run : ∃ n v h', exN T n f args h = some (v, h') ∧ R v h'
structure W (T : AT) (c : AC) (e : Env) (h : AH) (Q : XT → Env → AH → Prop) : Prop where
  run : ∃ n t e' h', exC (exN T n) n c e h = some (t, e', h') ∧ Q t e' h'
structure WO (T : AT) (ops : List AOp) (e : Env) (h : AH) (K : Env → AH → Prop) : Prop where
  run : ∃ n e' h', exOps (exN T n) ops e h = some (e', h') ∧ K e' h'

section
variable {T : AT} {Q : XT → Env → AH → Prop} {K : Env → AH → Prop} {e : Env} {h : AH}
theorem Ret.mono {f : Nat} {args : List AV} {R R' : AV → AH → Prop} (r : Ret T f args h R) (hr : ∀ v h', R v h' → R' v h') : Ret T f args h R' := by
  obtain ⟨n, v, h', h1, h2⟩ := r
  exact ⟨n, v, h', h1, hr _ _ h2⟩
theorem W.mono {c : AC} {Q' : XT → Env → AH → Prop} (w : W T c e h Q) (hq : ∀ t e h, Q t e h → Q' t e h) : W T c e h Q' := by
  obtain ⟨n, t, e', h', h1, h2⟩ := w
  exact ⟨n, t, e', h', h1, hq _ _ _ h2⟩
theorem WO.mono {l : List AOp} {K' : Env → AH → Prop} (w : WO T l e h K) (hk : ∀ e h, K e h → K' e h) : WO T l e h K' := by
  obtain ⟨n, e', h', h1, h2⟩ := w
  exact ⟨n, e', h', h1, hk _ _ h2⟩

theorem WO_nil (hk : K e h) : WO T [] e h K := ⟨0, e, h, rfl, hk⟩
theorem WO_step {o : AOp} {l : List AOp} {n : Nat} {v : AV} {h' : AH} (hs : stepOp (exN T n) o e h = some (v, h')) (hk : WO T l (eput e o.d v) h' K) : WO T (o :: l) e h K := by
  obtain ⟨m, e2, h2, h3, h4⟩ := hk
  refine ⟨max n m, e2, h2, ?_, h4⟩
  simp only [exOps, stepOp_le (exN_le (Nat.le_max_left n m)) hs]
  exact exOps_le (exN_le (Nat.le_max_right n m)) h3
/-- an operation that is no call -/
theorem WO_op {d : Option Nat} {g : Option (Nat × Bool)} {o : AO} {l : List AOp} {v : AV} {h' : AH} (hg : guarded e g = some true) (ho : ∀ C, exOp C o e h = some (v, h')) (hk : WO T l (eput e d v) h' K) : WO T (⟨d, g, o⟩ :: l) e h K :=
  WO_step (n := 0) (by simp only [stepOp, hg]; exact ho _) hk
theorem WO_skip {d : Option Nat} {g : Option (Nat × Bool)} {o : AO} {l : List AOp} (hg : guarded e g = some false) (hk : WO T l (eput e d (.tup [])) h K) : WO T (⟨d, g, o⟩ :: l) e h K :=
  WO_step (n := 0) (by simp only [stepOp, hg]) hk
theorem WO_call {d : Option Nat} {g : Option (Nat × Bool)} {f : Nat} {args : List AX} {l : List AOp} (hg : guarded e g = some true) (hr : Ret T f (args.map (ev e)) h fun v h' => WO T l (eput e d v) h' K) : WO T (⟨d, g, .call f args⟩ :: l) e h K := by
  obtain ⟨n, v, h', h1, h2⟩ := hr
  exact WO_step (n := n) (by simp only [stepOp, hg]; exact h1) h2
theorem WO_callv {d : Option Nat} {g : Option (Nat × Bool)} {x : AX} {args : List AX} {l : List AOp} {f : Nat} {first cap : List (Nat × Nat)} (hg : guarded e g = some true) (hx : ev e x = .fn f first cap)
    (hr : Ret T f (first.map (fun p => .ptr p.1 p.2) ++ args.map (ev e) ++ cap.map (fun p => .ptr p.1 p.2)) h fun v h' => WO T l (eput e d v) h' K) : WO T (⟨d, g, .callv x args⟩ :: l) e h K := by
  obtain ⟨n, v, h', h1, h2⟩ := hr
  exact WO_step (n := n) (by simp only [stepOp, hg, exOp, hx]; exact h1) h2

theorem W_skip (hq : Q .nrm e h) : W T .skip e h Q := ⟨0, _, _, _, rfl, hq⟩
theorem W_ret (hq : Q .ret e h) : W T .ret e h Q := ⟨0, _, _, _, rfl, hq⟩
theorem W_exit {i : Nat} (hq : Q (.ex i) e h) : W T (.exit i) e h Q := ⟨0, _, _, _, rfl, hq⟩
/-- then .. -/
def thn (K : Env → AH → Prop) (Q : XT → Env → AH → Prop) : XT → Env → AH → Prop
  | .nrm, e, h => K e h
  | .ret, e, h => Q .ret e h
  | .ex i, e, h => Q (.ex i) e h
def blk (i : Nat) (Q : XT → Env → AH → Prop) : XT → Env → AH → Prop
  | .ex j, e, h => if j = i then Q .nrm e h else Q (.ex j) e h
  | .nrm, e, h => Q .nrm e h
  | .ret, e, h => Q .ret e h
theorem W_seq {a b : AC} (ha : W T a e h (thn (fun e h => W T b e h Q) Q)) : W T (.seq a b) e h Q := by
  obtain ⟨n, t, e1, h1, h2, h3⟩ := ha
  cases t with
  | nrm =>
    obtain ⟨m, t', e2, h4, h5, h6⟩ := h3
    refine ⟨max n m, t', e2, h4, ?_, h6⟩
    simp only [exC, exC_le (exN_le (Nat.le_max_left n m)) (Nat.le_max_left n m) h2]
    exact exC_le (exN_le (Nat.le_max_right n m)) (Nat.le_max_right n m) h5
  | ret => exact ⟨n, _, e1, h1, by simp only [exC, h2], h3⟩
  | ex i => exact ⟨n, _, e1, h1, by simp only [exC, h2], h3⟩
theorem W_true {c : AX} {a b : AC} (hc : ev e c = .b true) (ha : W T a e h Q) : W T (.cond c a b) e h Q := by
  obtain ⟨n, t, e1, h1, h2, h3⟩ := ha
  exact ⟨n, t, e1, h1, by simp only [exC, hc]; exact h2, h3⟩
theorem W_false {c : AX} {a b : AC} (hc : ev e c = .b false) (hb : W T b e h Q) : W T (.cond c a b) e h Q := by
  obtain ⟨n, t, e1, h1, h2, h3⟩ := hb
  exact ⟨n, t, e1, h1, by simp only [exC, hc]; exact h2, h3⟩
theorem W_cond {c : AX} {a b : AC} {x : Bool} (hc : ev e c = .b x) (ha : x = true → W T a e h Q) (hb : x = false → W T b e h Q) : W T (.cond c a b) e h Q := by
  cases x
  · exact W_false hc (hb rfl)
  · exact W_true hc (ha rfl)
theorem W_if {c : AX} {a b : AC} {p : Prop} [Decidable p] (hc : ev e c = .b (decide p)) (ha : p → W T a e h Q) (hb : ¬ p → W T b e h Q) : W T (.cond c a b) e h Q :=
  W_cond hc (fun h => ha (of_decide_eq_true h)) fun h => hb (of_decide_eq_false h)
theorem W_block {i : Nat} {b : AC} (hb : W T b e h (blk i Q)) : W T (.block i b) e h Q := by
  obtain ⟨n, t, e1, h1, h2, h3⟩ := hb
  cases t with
  | nrm => exact ⟨n, _, e1, h1, by simp only [exC, h2], h3⟩
  | ret => exact ⟨n, _, e1, h1, by simp only [exC, h2], h3⟩
  | ex j =>
    simp only [blk] at h3
    split at h3
    · rename_i hj; exact ⟨n, _, e1, h1, by simp only [exC, h2, hj, if_true], h3⟩
    · rename_i hj; exact ⟨n, _, e1, h1, by simp only [exC, h2, hj, if_false], h3⟩
theorem W_reg {ops : List AOp} {kp : List Nat} (ho : WO T ops e h fun e' h' => Q .nrm (keepE kp e') h') : W T (.reg ops kp) e h Q := by
  obtain ⟨n, e1, h1, h2, h3⟩ := ho
  exact ⟨n, _, _, h1, by simp only [exC, h2], h3⟩
/-- a loop, by a number that falls -/
theorem W_loop {b : AC} (I : Nat → Env → AH → Prop) (k : Nat) (h0 : I k e h) (hb : ∀ k e h, I k e h → W T b e h (thn (fun e' h' => ∃ k', k' < k ∧ I k' e' h') Q)) : W T (.loop b) e h Q := by
  induction k using Nat.strongRecOn generalizing e h with
  | _ k ih =>
    obtain ⟨n, t, e1, h1, h2, h3⟩ := hb k e h h0
    cases t with
    | nrm =>
      obtain ⟨k', hk, hI⟩ := h3
      obtain ⟨m, t', e2, h4, h5, h6⟩ := ih k' hk hI
      refine ⟨max n m + 1, t', e2, h4, ?_, h6⟩
      simp only [exC, exL] at h5 ⊢
      rw [exC_le (exN_le (by omega)) (by omega) h2]
      exact exL_le (fun hb => exC_le (exN_le (by omega)) (by omega) hb) (by omega) h5
    | ret =>
      refine ⟨n + 1, _, e1, h1, ?_, h3⟩
      simp only [exC, exL]
      rw [exC_le (exN_le (by omega)) (by omega) h2]
    | ex i =>
      refine ⟨n + 1, _, e1, h1, ?_, h3⟩
      simp only [exC, exL]
      rw [exC_le (exN_le (by omega)) (by omega) h2]
/-- one round of a loop -/
theorem W_unroll {b : AC} (hb : W T b e h (thn (fun e' h' => W T (.loop b) e' h' Q) Q)) : W T (.loop b) e h Q := by
  obtain ⟨n, t, e1, h1, h2, h3⟩ := hb
  cases t with
  | nrm =>
    obtain ⟨m, t', e2, h4, h5, h6⟩ := h3
    refine ⟨max n m + 1, t', e2, h4, ?_, h6⟩
    simp only [exC, exL] at h5 ⊢
    rw [exC_le (exN_le (by omega)) (by omega) h2]
    exact exL_le (fun hb => exC_le (exN_le (by omega)) (by omega) hb) (by omega) h5
  | ret =>
    refine ⟨n + 1, _, e1, h1, ?_, h3⟩
    simp only [exC, exL]
    rw [exC_le (exN_le (by omega)) (by omega) h2]
  | ex i =>
    refine ⟨n + 1, _, e1, h1, ?_, h3⟩
    simp only [exC, exL]
    rw [exC_le (exN_le (by omega)) (by omega) h2]
/-- a function of the table -/
theorem Ret_of {f : Nat} {F : AFun} (hf : T f = some (.fn F)) {args : List AV} {R : AV → AH → Prop} (hn : args.length = F.np)
    (hw : W T F.body (bindA 0 args) h fun t e' h' => (t = .nrm ∨ t = .ret) ∧ ∃ vs v, aress F.res e' h' = some vs ∧ tie vs = some v ∧ R v h') : Ret T f args h R := by
  obtain ⟨n, t, e1, h1, h2, h3, vs, v, h4, h5, h6⟩ := hw
  refine ⟨n + 1, v, h1, ?_, h6⟩
  simp only [exN, hf, exF, if_pos hn]
  rcases h3 with rfl | rfl <;> simp [h2, h4, h5]
theorem Ret_fn {f : Nat} {F : AFun} {np : Nat} {res : List RV} {body : AC} (hf : T f = some (.fn F)) (hF : F = ⟨np, res, body⟩) {args : List AV} {R : AV → AH → Prop} (hn : args.length = np)
    (hw : W T body (bindA 0 args) h fun t e' h' => (t = .nrm ∨ t = .ret) ∧ ∃ vs v, aress res e' h' = some vs ∧ tie vs = some v ∧ R v h') : Ret T f args h R := by
  subst hF
  exact Ret_of hf hn hw
theorem Ret_spec {f : Nat} {g : List AV → Option AV} (hf : T f = some (.spec g)) {args : List AV} {v : AV} {R : AV → AH → Prop} (hg : g args = some v) (hr : R v h) : Ret T f args h R :=
  ⟨1, v, h, by simp [exN, hf, hg], hr⟩

/-! ### regions whose order is open -/
/-- the states so far, the last one first; the operations so far, likewise -/
structure WD (T : AT) (ops : List AOp) (e : Env) (h : AH) (K : List (Env × AH × AV) → Env → AH → Prop) : Prop where
  run : ∃ n tr e' h', exTr (exN T n) ops e h = some (tr, e', h') ∧ K tr e' h'
theorem WD_nil {K : List (Env × AH × AV) → Env → AH → Prop} (hk : K [] e h) : WD T [] e h K := ⟨0, _, e, h, rfl, hk⟩
theorem WD_step {K : List (Env × AH × AV) → Env → AH → Prop} {o : AOp} {l : List AOp} {n : Nat} {v : AV} {h' : AH} (hs : stepOp (exN T n) o e h = some (v, h'))
    (hk : WD T l (eput e o.d v) h' fun tr => K ((e, h, v) :: tr)) : WD T (o :: l) e h K := by
  obtain ⟨m, tr, e2, h2, h3, h4⟩ := hk
  refine ⟨max n m, _, e2, h2, ?_, h4⟩
  simp only [exTr, stepOp_le (exN_le (Nat.le_max_left n m)) hs]
  rw [exTr_le (exN_le (Nat.le_max_right n m)) h3]
theorem W_regd {ops : List AOp} {rc : List (Nat × Nat)} {kp : List Nat} (ho : WD T ops e h fun tr e' h' => rcOk ops tr h' rc = true ∧ Q .nrm (keepE kp e') h') : W T (.regd ops rc kp) e h Q := by
  obtain ⟨n, tr, e1, h1, h2, h3, h4⟩ := ho
  exact ⟨n, _, _, h1, by simp only [exC, h2, h3, if_true], h4⟩
theorem WD_of {l : List AOp} (w : WO T l e h K) : WD T l e h fun _ e' h' => K e' h' := by
  obtain ⟨n, e', h', h1, h2⟩ := w
  have : ∀ {C : CallF} {l : List AOp} {e : Env} {h : AH} {e' : Env} {h' : AH}, exOps C l e h = some (e', h') → ∃ tr, exTr C l e h = some (tr, e', h') := by
    intro C l
    induction l with
    | nil => intro e h e' h' hr; simp [exOps] at hr; exact ⟨[], by simp [exTr, hr]⟩
    | cons o l ih =>
      intro e h e' h' hr
      simp only [exOps] at hr
      split at hr
      · rename_i hs
        obtain ⟨tr, ht⟩ := ih hr
        exact ⟨(_, _, _) :: tr, by simp only [exTr, hs, ht]; rfl⟩
      · cases hr
  obtain ⟨tr, ht⟩ := this h1
  exact ⟨n, tr, e', h', ht, h2⟩
theorem W_regd0 {ops : List AOp} {kp : List Nat} (ho : WO T ops e h fun e' h' => Q .nrm (keepE kp e') h') : W T (.regd ops [] kp) e h Q := by
  obtain ⟨n, tr, e1, h1, h2, h3⟩ := WD_of ho
  exact ⟨n, _, _, h1, by simp only [exC, h2, rcOk, List.all_nil, if_true], h3⟩
end

theorem beq_ft : (false == true) = false := rfl
theorem beq_tf : (true == false) = false := rfl
/-! ### running on until a call, or until an operation that turns memory -/
/-- where a run stops: a call, or an operation -/
inductive Stop where
  | call (d : Option Nat) (f : Nat) (args : List AV) (rest : List AOp)
  | op (d : Option Nat) (o : AO) (rest : List AOp)
inductive Nx where
  | go | halt | call (f : Nat) (args : List AV) | bad
def nxt (o : AO) (e : Env) : Nx :=
  match o with
  | .call f args => .call f (args.map (ev e))
  | .callv x args =>
    match ev e x with
    | .fn g first cap => .call g (first.map (fun p => .ptr p.1 p.2) ++ args.map (ev e) ++ cap.map (fun p => .ptr p.1 p.2))
    | _ => .bad
  | .st _ _ _ | .mup _ _ _ _ | .ment _ _ _ _ | .mst _ _ _ | .app _ _ _ _ | .cpy _ _ _ | .del _ _ _ | .clr _ _ _ | .lkp _ _ _ _ _ | .mks _ _ _ _ _ => .halt
  | _ => .go
def run : List AOp → Env → AH → Option (Env × AH × Option Stop)
  | [], e, h => some (e, h, none)
  | ⟨d, g, o⟩ :: r, e, h =>
    match guarded e g with
    | some true =>
      match nxt o e with
      | .call f args => some (e, h, some (.call d f args r))
      | .halt => some (e, h, some (.op d o r))
      | .go =>
        match aop o e h with
        | some (v, h') => run r (eput e d v) h'
        | none => none
      | .bad => none
    | some false => run r (eput e d (.tup [])) h
    | none => none
theorem nxt_call {C : CallF} {o : AO} {e : Env} {h : AH} {f : Nat} {args : List AV} (hc : nxt o e = .call f args) : exOp C o e h = C f args h := by
  unfold nxt at hc
  split at hc <;> try cases hc
  · rfl
  · split at hc
    · rename_i hx
      cases hc
      simp only [exOp, hx]
    · cases hc
theorem nxt_op {C : CallF} {o : AO} {e : Env} {h : AH} (hc : nxt o e = .go ∨ nxt o e = .halt) : exOp C o e h = aop o e h := by
  cases o with
  | call => simp [nxt] at hc
  | callv => simp only [nxt] at hc; split at hc <;> simp at hc
  | _ => rfl
def K2 (T : AT) (K : Env → AH → Prop) (e : Env) (h : AH) : Option Stop → Prop
  | none => K e h
  | some (.call d f args rest) => Ret T f args h fun v h2 => WO T rest (eput e d v) h2 K
  | some (.op d o rest) => ∃ v h2, aop o e h = some (v, h2) ∧ WO T rest (eput e d v) h2 K
theorem run_sound {T : AT} : ∀ {l : List AOp} {e e' : Env} {h h' : AH} {s : Option Stop} {K : Env → AH → Prop}, run l e h = some (e', h', s) → K2 T K e' h' s → WO T l e h K
  | [], e, e', h, h', s, K, hr, hk => by cases hr; exact WO_nil hk
  | ⟨d, g, o⟩ :: l, e, e', h, h', s, K, hr, hk => by
    simp only [run] at hr
    split at hr
    · rename_i hg
      split at hr
      · rename_i hc
        cases hr
        obtain ⟨n, v, h2, h3, h4⟩ := hk
        exact WO_step (n := n) (by simp only [stepOp, hg]; rw [nxt_call hc]; exact h3) h4
      · rename_i hc
        cases hr
        obtain ⟨v, h2, h3, h4⟩ := hk
        exact WO_op hg (fun C => by rw [nxt_op (.inr hc)]; exact h3) h4
      · rename_i hc
        split at hr
        · rename_i ha
          exact WO_op hg (fun C => by rw [nxt_op (.inl hc)]; exact ha) (run_sound hr hk)
        · cases hr
      · cases hr
    · rename_i hg; exact WO_skip hg (run_sound hr hk)
    · cases hr
section
variable {T : AT} {Q : XT → Env → AH → Prop} {K : Env → AH → Prop} {e e' : Env} {h h' : AH}
/-- a region without a call -/
def runK (ops : List AOp) (kp : List Nat) (e : Env) (h : AH) : Option (Env × AH) :=
  match run ops e h with
  | some (e', h', none) => some (keepE kp e', h')
  | _ => none
theorem W_run {ops : List AOp} {kp : List Nat} (hr : runK ops kp e h = some (e', h')) (hq : Q .nrm e' h') : W T (.reg ops kp) e h Q := by
  unfold runK at hr
  split at hr
  · rename_i h1; cases hr; exact W_reg (run_sound h1 hq)
  · cases hr
theorem W_rund {ops : List AOp} {kp : List Nat} (hr : runK ops kp e h = some (e', h')) (hq : Q .nrm e' h') : W T (.regd ops [] kp) e h Q := by
  unfold runK at hr
  split at hr
  · rename_i h1; cases hr; exact W_regd0 (run_sound h1 hq)
  · cases hr
/-- the tail of a region: no more stops -/
theorem WO_fin {l : List AOp} {kp : List Nat} (hr : runK l kp e h = some (e', h')) (hq : Q .nrm e' h') : WO T l e h fun e h => Q .nrm (keepE kp e) h := by
  unfold runK at hr
  split at hr
  · rename_i h1; cases hr; exact run_sound h1 hq
  · cases hr
/-- a call, then the rest -/
theorem WO_run {l : List AOp} {d : Option Nat} {f : Nat} {args : List AV} {rest : List AOp} (hr : run l e h = some (e', h', some (.call d f args rest))) (hk : Ret T f args h' fun v h2 => WO T rest (eput e' d v) h2 K) : WO T l e h K := run_sound hr hk
/-- an operation that turns memory, then the rest -/
theorem WO_halt {l : List AOp} {d : Option Nat} {o : AO} {rest : List AOp} {v : AV} {h2 : AH} (hr : run l e h = some (e', h', some (.op d o rest))) (ha : aop o e' h' = some (v, h2)) (hk : WO T rest (eput e' d v) h2 K) : WO T l e h K := run_sound hr ⟨v, h2, ha, hk⟩
theorem WO_end {l : List AOp} (hr : run l e h = some (e', h', none)) (hk : K e' h') : WO T l e h K := run_sound hr hk
end
end Go.Proofs.Ytadbipeachcekaa.Ab
