/- The operations, part two: comparisons. -/
import Derived.Test.YtpgoemmjhnnmoaaAbOps
import Derived.ChangeKeysEq
import Derived.Laws.BytesArg
namespace Go.Proofs.Ytpgoemmjhnnmoaa.Ab
open Go
set_option linter.unusedVariables false
section
variable {P : Program} {lk : Lk} {ρ : Rho} {h : AH} {w : World}

/-! ### comparisons -/
def skT (P : Program) (t : TypeId) (k : SK) : Bool :=
  match P.underlying t, k with
  | some .bool, .bo | some (.int _), .it | some .string, .st => true
  | _, _ => false
def flatFields (P : Program) : List Field → List SK → Nat → Bool
  | [], [], _ => true
  | f :: fs, k :: ks, o => (f.name != "_") && decide (f.offset = o) && skT P f.type k && flatFields P fs ks (o + 1)
  | _, _, _ => false
def eqK (P : Program) (t : TypeId) : EK → Bool
  | .bo => match P.underlying t with | some .bool => true | _ => false
  | .pt => match P.underlying t with | some (.pointer _) => true | _ => false
  | .sl => match P.underlying t with | some (.slice _) => true | _ => false
  | .mp => match P.underlying t with | some (.map _ _) => true | _ => false
  | .fn => match P.underlying t with | some (.func _ _ _) => true | _ => false
  | .ag ks =>
    !(P.eqGuardType P.depth t) &&
    match P.underlying t with
    | some (.struct fs) => !(P.stoodInHeld t) && flatFields P fs.toList ks 0
    | some (.array n e) => decide (ks.length = n) && ks.all (skT P e) && decide (P.cellsOf e = 1) && (P.info? e).isSome
    | _ => false

theorem run_part_scalar {t : TypeId} {k : SK} {cs : Array Value} {o : Nat} {x : Value} (ht : skT P t k = true) (hx : cs[o]? = some x) : (part t cs o).run P w = .ok x w := by
  have ha : aggT P t = some false := by
    unfold skT at ht
    unfold aggT
    split at ht <;> simp_all
  simp [part, run_aggT ha, hx]
theorem sceq_sound {d : Nat} {t : TypeId} {k : SK} {u v : AV} {a b : Value} {r : Bool} (ht : skT P t k = true) (hu : VC lk ρ u a) (hv : VC lk ρ v b)
    (hr : sceq k u v = some r) : (Op.equalIn (d + 1) t a b).run P w = .ok r w := by
  unfold skT at ht
  unfold sceq at hr
  split at hr
  · cases hu; cases hv
    cases hd : P.underlying t with
    | none => simp [hd] at ht
    | some x => cases x <;> simp [hd] at ht; cases hr; exact run_equalIn_bool w d t _ _ hd
  · split at hr
    · rename_i e
      subst e
      cases hu; cases hv
      cases hd : P.underlying t with
      | none => simp [hd] at ht
      | some x => cases x <;> simp [hd] at ht; cases hr; exact run_equalIn_int w d t _ _ _ _ hd
    · cases hr
  · obtain ⟨y1, rfl, rfl⟩ := hu.e.s
    obtain ⟨y2, rfl, rfl⟩ := hv.e.s
    cases hd : P.underlying t with
    | none => simp [hd] at ht
    | some x => cases x <;> simp [hd] at ht; cases hr; rw [run_equalIn_string w d t _ _ hd, ByteArray.toList_eq, ByteArray.toList_eq, beqd]
  · cases hr
theorem F2.head {α β : Type} {R : α → β → Prop} {x : α} {xs : List α} {ys : List β} (h : F2 R (x :: xs) ys) : ∃ y ys', ys = y :: ys' ∧ R x y ∧ F2 R xs ys' := by
  cases ys with | nil => exact h.elim | cons y ys => exact ⟨y, ys, rfl, h.1, h.2⟩
theorem eqFields_sound {d : Nat} {xs ys : Array Value} : ∀ {ks : List SK} {fs : List Field} {o : Nat} {us vs : List AV} {r : Bool}, flatFields P fs ks o = true →
    F2 (VC lk ρ) us (xs.toList.drop o) → F2 (VC lk ρ) vs (ys.toList.drop o) → aeqs ks us vs = some r → (Op.eqFields (d + 1) xs ys fs).run P w = .ok r w
  | [], [], o, us, vs, r, hf, hu, hv, hr => by
    cases us with
    | nil => cases vs with | nil => simp [aeqs] at hr; subst hr; rfl | cons => simp [aeqs] at hr
    | cons => simp [aeqs] at hr
  | k :: ks, f :: fs, o, us, vs, r, hf, hu, hv, hr => by
    cases us with
    | nil => simp [aeqs] at hr
    | cons u us =>
      cases vs with
      | nil => simp [aeqs] at hr
      | cons v vs =>
        simp only [flatFields, Bool.and_eq_true, decide_eq_true_eq, bne_iff_ne, ne_eq] at hf
        obtain ⟨⟨⟨hn, ho⟩, hk⟩, hf⟩ := hf
        obtain ⟨x, xs', hx, hux, hus⟩ := hu.head
        obtain ⟨y, ys', hy, hvy, hvs⟩ := hv.head
        have hx0 : xs[o]? = some x := by
          have := congrArg (fun l => l[0]?) hx
          simpa [List.getElem?_drop] using this
        have hy0 : ys[o]? = some y := by
          have := congrArg (fun l => l[0]?) hy
          simpa [List.getElem?_drop] using this
        have hx1 : xs.toList.drop (o + 1) = xs' := by rw [← List.drop_drop, hx]; rfl
        have hy1 : ys.toList.drop (o + 1) = ys' := by rw [← List.drop_drop, hy]; rfl
        simp only [Op.eqFields, ne_eq, hn, not_false_eq_true, if_true, Sem.run_bind, ho, run_part_scalar hk hx0, run_part_scalar hk hy0, Result.andThen_ok]
        simp only [aeqs] at hr
        cases hs : sceq k u v with
        | none => simp [hs] at hr
        | some q =>
          rw [sceq_sound hk hux hvy hs]
          cases q with
          | false => simp [hs] at hr; subst hr; simp
          | true =>
            simp only [hs] at hr
            simp only [Result.andThen_ok, Bool.not_true, Bool.false_eq_true, if_false]
            exact eqFields_sound hf (by rw [hx1]; exact hus) (by rw [hy1]; exact hvs) hr
  | [], _ :: _, _, _, _, _, hf, _, _, _ => by simp [flatFields] at hf
  | _ :: _, [], _, _, _, _, hf, _, _, _ => by simp [flatFields] at hf
theorem eqItems_sound {d : Nat} {e : TypeId} {xs ys : Array Value} : ∀ {ks : List SK} {o : Nat} {us vs : List AV} {r : Bool}, ks.all (skT P e) = true →
    F2 (VC lk ρ) us (xs.toList.drop o) → F2 (VC lk ρ) vs (ys.toList.drop o) → aeqs ks us vs = some r → (Op.eqItems (d + 1) e 1 xs ys (List.range' o ks.length)).run P w = .ok r w
  | [], o, us, vs, r, hf, hu, hv, hr => by
    cases us with
    | nil => cases vs with | nil => simp [aeqs] at hr; subst hr; rfl | cons => simp [aeqs] at hr
    | cons => simp [aeqs] at hr
  | k :: ks, o, us, vs, r, hf, hu, hv, hr => by
    cases us with
    | nil => simp [aeqs] at hr
    | cons u us =>
      cases vs with
      | nil => simp [aeqs] at hr
      | cons v vs =>
        simp only [List.all_cons, Bool.and_eq_true] at hf
        obtain ⟨hk, hf⟩ := hf
        obtain ⟨x, xs', hx, hux, hus⟩ := hu.head
        obtain ⟨y, ys', hy, hvy, hvs⟩ := hv.head
        have hx0 : xs[o * 1]? = some x := by
          have := congrArg (fun l => l[0]?) hx
          simpa [List.getElem?_drop] using this
        have hy0 : ys[o * 1]? = some y := by
          have := congrArg (fun l => l[0]?) hy
          simpa [List.getElem?_drop] using this
        have hx1 : xs.toList.drop (o + 1) = xs' := by rw [← List.drop_drop, hx]; rfl
        have hy1 : ys.toList.drop (o + 1) = ys' := by rw [← List.drop_drop, hy]; rfl
        simp only [List.length_cons, List.range'_succ, Op.eqItems, Sem.run_bind, run_part_scalar hk hx0, run_part_scalar hk hy0, Result.andThen_ok]
        simp only [aeqs] at hr
        cases hs : sceq k u v with
        | none => simp [hs] at hr
        | some q =>
          rw [sceq_sound hk hux hvy hs]
          cases q with
          | false => simp [hs] at hr; subst hr; simp
          | true =>
            simp only [hs] at hr
            simp only [Result.andThen_ok, Bool.not_true, Bool.false_eq_true, if_false]
            exact eqItems_sound hf (by rw [hx1]; exact hus) (by rw [hy1]; exact hvs) hr
/-- '==' of structs and arrays -/
theorem aeqs_sound {d : Nat} {t : TypeId} {ks : List SK} {us vs : List AV} {xs ys : Array Value} {r : Bool} (ht : eqK P t (.ag ks) = true) (hu : F2 (VC lk ρ) us xs.toList) (hv : F2 (VC lk ρ) vs ys.toList)
    (hr : aeqs ks us vs = some r) : (Op.equalIn (d + 2) t (.agg xs) (.agg ys)).run P w = .ok r w := by
  simp only [eqK, Bool.and_eq_true] at ht
  obtain ⟨_, ht⟩ := ht
  cases hd : P.underlying t with
  | none => simp [hd] at ht
  | some x =>
    cases x with
    | struct fs =>
      simp only [hd, Bool.and_eq_true, Bool.not_eq_true'] at ht
      have hfs : P.fieldsOf t = fs := by simp [Program.fieldsOf, hd]
      rw [run_equalIn_struct w (d + 1) t xs ys (by rw [hfs]; exact hd) ht.1, hfs]
      exact eqFields_sound ht.2 (by simpa using hu) (by simpa using hv) hr
    | array n e =>
      simp only [hd, Bool.and_eq_true, decide_eq_true_eq] at ht
      obtain ⟨⟨⟨h1, h2⟩, h3⟩, h4⟩ := ht
      obtain ⟨i, hi⟩ := Option.isSome_iff_exists.1 h4
      rw [run_equalIn_array w (d + 1) xs ys hd hi, h3, List.range_eq_range', ← h1]
      exact eqItems_sound h2 (by simpa using hu) (by simpa using hv) hr
    | _ => simp [hd] at ht
theorem eqn_ptr (d : Nat) {t e : TypeId} (hd : P.underlying t = some (.pointer e)) (b : Option Addr) : (Op.equalIn (d + 1) t (.pointer none) (.pointer b)).run P w = .ok b.isNone w := by
  simp only [Op.equalIn, Sem.run_bind, run_underlying hd, Result.andThen_ok]; rfl
theorem eqn_ptr' (d : Nat) {t e : TypeId} (hd : P.underlying t = some (.pointer e)) (a : Addr) : (Op.equalIn (d + 1) t (.pointer (some a)) (.pointer none)).run P w = .ok false w := by
  simp only [Op.equalIn, Sem.run_bind, run_underlying hd, Result.andThen_ok]; rfl
theorem eqn_sl (d : Nat) {t e : TypeId} (hd : P.underlying t = some (.slice e)) (b : Option Addr) (n c n' c' : Nat) : (Op.equalIn (d + 1) t (.slice none n c) (.slice b n' c')).run P w = .ok b.isNone w := by
  simp only [Op.equalIn, Sem.run_bind, run_underlying hd, Result.andThen_ok]; rfl
theorem eqn_sl' (d : Nat) {t e : TypeId} (hd : P.underlying t = some (.slice e)) (a : Addr) (n c n' c' : Nat) : (Op.equalIn (d + 1) t (.slice (some a) n c) (.slice none n' c')).run P w = .ok false w := by
  simp only [Op.equalIn, Sem.run_bind, run_underlying hd, Result.andThen_ok]; rfl
theorem eqn_mp (d : Nat) {t k e : TypeId} (hd : P.underlying t = some (.map k e)) (b : Option Nat) : (Op.equalIn (d + 1) t (.map none) (.map b)).run P w = .ok b.isNone w := by
  simp only [Op.equalIn, Sem.run_bind, run_underlying hd, Result.andThen_ok]; rfl
theorem eqn_mp' (d : Nat) {t k e : TypeId} (hd : P.underlying t = some (.map k e)) (a : Nat) : (Op.equalIn (d + 1) t (.map (some a)) (.map none)).run P w = .ok false w := by
  simp only [Op.equalIn, Sem.run_bind, run_underlying hd, Result.andThen_ok]; rfl
theorem eqn_fn0 (d : Nat) {t : TypeId} {ps rs : Array TypeId} {vr : Bool} (hd : P.underlying t = some (.func ps rs vr)) : (Op.equalIn (d + 1) t .nilFunc .nilFunc).run P w = .ok true w := by
  simp only [Op.equalIn, Sem.run_bind, run_underlying hd, Result.andThen_ok]; rfl
theorem eqn_fn1 (d : Nat) {t : TypeId} {ps rs : Array TypeId} {vr : Bool} (hd : P.underlying t = some (.func ps rs vr)) (f : Fn) (a c : Array Value) : (Op.equalIn (d + 1) t .nilFunc (.func f a c)).run P w = .ok false w := by
  simp only [Op.equalIn, Sem.run_bind, run_underlying hd, Result.andThen_ok]; rfl
theorem eqn_fn2 (d : Nat) {t : TypeId} {ps rs : Array TypeId} {vr : Bool} (hd : P.underlying t = some (.func ps rs vr)) (f : Fn) (a c : Array Value) : (Op.equalIn (d + 1) t (.func f a c) .nilFunc).run P w = .ok false w := by
  simp only [Op.equalIn, Sem.run_bind, run_underlying hd, Result.andThen_ok]; rfl
theorem bop_eq {op : BinOp} {neg : Bool} {t : TypeId} {a b : Value} (ho : op = if neg then .neq else .eql) (h1 : ∀ k n, a ≠ .int k n) (h2 : ∀ k n, a ≠ .float k n) (h3 : ∀ k n m, a ≠ .complex k n m) (h4 : ∀ s, a ≠ .string s) :
    binOp op t a b = (do pure (.bool ((← Op.equal t a b) != neg))) := by
  subst ho
  cases neg <;> simp only [if_true, if_false, Bool.false_eq_true] <;> unfold binOp <;> cases a <;> simp_all
theorem fin_eq {op : BinOp} {neg : Bool} {t : TypeId} {x y : Operand} {a b : Value} {r : Bool} (ho : op = if neg then .neq else .eql) (h0 : (∀ k n, a ≠ .int k n) ∧ (∀ k n, a ≠ .float k n) ∧ (∀ k n m, a ≠ .complex k n m) ∧ (∀ s, a ≠ .string s))
    (h2 : (eqGuard op t x y a b).run P w = .ok () w) (h1 : (Op.equalIn (9999 + 1) t a b).run P w = .ok r w) : (do eqGuard op t x y a b; binOp op t a b).run P w = .ok (.bool (r != neg)) w := by
  rw [Sem.run_bind, h2, Result.andThen_ok, bop_eq ho h0.1 h0.2.1 h0.2.2.1 h0.2.2.2, Sem.run_bind, show Op.equal t = Op.equalIn (9999 + 1) t from rfl, h1]
  rfl
theorem aeq_sound {kd : EK} {neg : Bool} {op : BinOp} {t : TypeId} {x y : Operand} {u v : AV} {a b : Value} {r : Bool} (ho : op = if neg then .neq else .eql) (ht : eqK P t kd = true) (hu : VE lk ρ u a) (hv : VE lk ρ v b)
    (hr : aeq kd u v = some r) : (do eqGuard op t x y a b; binOp op t a b).run P w = .ok (.bool (r != neg)) w := by
  have bo : eqK P t .bo = true → P.underlying t = some .bool := fun h => by
    simp only [eqK] at h
    split at h
    · assumption
    · cases h
  have pt : eqK P t .pt = true → ∃ e, P.underlying t = some (.pointer e) := fun h => by
    simp only [eqK] at h
    split at h
    · exact ⟨_, by assumption⟩
    · cases h
  have sl : eqK P t .sl = true → ∃ e, P.underlying t = some (.slice e) := fun h => by
    simp only [eqK] at h
    split at h
    · exact ⟨_, by assumption⟩
    · cases h
  have mp : eqK P t .mp = true → ∃ k e, P.underlying t = some (.map k e) := fun h => by
    simp only [eqK] at h
    split at h
    · exact ⟨_, _, by assumption⟩
    · cases h
  have fn : eqK P t .fn = true → ∃ a b c, P.underlying t = some (.func a b c) := fun h => by
    simp only [eqK] at h
    split at h
    · exact ⟨_, _, _, by assumption⟩
    · cases h
  unfold aeq at hr
  split at hr
  · obtain rfl := hu.b; obtain rfl := hv.b
    cases hr
    exact fin_eq ho (by simp) (by rw [eqGuard_at_bool]; rfl) (run_equalIn_bool w 9999 t _ _ (bo ht))
  · obtain rfl := hu.nilp; obtain rfl := hv.nilp
    cases hr; obtain ⟨e, hd⟩ := pt ht
    exact fin_eq ho (by simp) (by rw [eqGuard_at_pointer]; rfl) (eqn_ptr 9999 hd _)
  · obtain rfl := hu.nilp; obtain ⟨b, t', _, rfl⟩ := hv.ptr
    cases hr; obtain ⟨e, hd⟩ := pt ht
    exact fin_eq ho (by simp) (by rw [eqGuard_at_pointer]; rfl) (eqn_ptr 9999 hd _)
  · obtain ⟨b, t', _, rfl⟩ := hu.ptr; obtain rfl := hv.nilp
    cases hr; obtain ⟨e, hd⟩ := pt ht
    exact fin_eq ho (by simp) (by rw [eqGuard_at_pointer]; rfl) (eqn_ptr' 9999 hd _)
  · obtain rfl := hu.nils; obtain rfl := hv.nils
    cases hr; obtain ⟨e, hd⟩ := sl ht
    exact fin_eq ho (by simp) (by rw [eqGuard_at_slice]; rfl) (eqn_sl 9999 hd _ _ _ _ _)
  · obtain rfl := hu.nils; obtain ⟨b, t', o, c, _, _, _, _, _, _, rfl⟩ := hv.sl
    cases hr; obtain ⟨e, hd⟩ := sl ht
    exact fin_eq ho (by simp) (by rw [eqGuard_at_slice]; rfl) (eqn_sl 9999 hd _ _ _ _ _)
  · obtain ⟨b, t', o, c, _, _, _, _, _, _, rfl⟩ := hu.sl; obtain rfl := hv.nils
    cases hr; obtain ⟨e, hd⟩ := sl ht
    exact fin_eq ho (by simp) (by rw [eqGuard_at_slice]; rfl) (eqn_sl' 9999 hd _ _ _ _ _)
  · obtain rfl := hu.nils; obtain ⟨a, rfl⟩ := hv.es
    cases hr; obtain ⟨e, hd⟩ := sl ht
    exact fin_eq ho (by simp) (by rw [eqGuard_at_slice]; rfl) (eqn_sl 9999 hd _ _ _ _ _)
  · obtain ⟨a, rfl⟩ := hu.es; obtain rfl := hv.nils
    cases hr; obtain ⟨e, hd⟩ := sl ht
    exact fin_eq ho (by simp) (by rw [eqGuard_at_slice]; rfl) (eqn_sl' 9999 hd _ _ _ _ _)
  · obtain rfl := hu.nilm; obtain rfl := hv.nilm
    cases hr; obtain ⟨k, e, hd⟩ := mp ht
    exact fin_eq ho (by simp) (by rw [eqGuard_at_map]; rfl) (eqn_mp 9999 hd _)
  · obtain rfl := hu.nilm; obtain ⟨b, t', _, rfl⟩ := hv.mp
    cases hr; obtain ⟨k, e, hd⟩ := mp ht
    exact fin_eq ho (by simp) (by rw [eqGuard_at_map]; rfl) (eqn_mp 9999 hd _)
  · obtain ⟨b, t', _, rfl⟩ := hu.mp; obtain rfl := hv.nilm
    cases hr; obtain ⟨k, e, hd⟩ := mp ht
    exact fin_eq ho (by simp) (by rw [eqGuard_at_map]; rfl) (eqn_mp' 9999 hd _)
  · obtain rfl := hu.nilf; obtain rfl := hv.nilf
    cases hr; obtain ⟨a, b, c, hd⟩ := fn ht
    exact fin_eq ho (by simp) (by rw [eqGuard_at_nilFunc]; rfl) (eqn_fn0 9999 hd)
  · obtain rfl := hu.nilf; obtain ⟨g, f1, c1, _, _, _, rfl⟩ := hv.fn
    cases hr; obtain ⟨a, b, c, hd⟩ := fn ht
    exact fin_eq ho (by simp) (by rw [eqGuard_at_nilFunc]; rfl) (eqn_fn1 9999 hd _ _ _)
  · obtain ⟨g, f1, c1, _, _, _, rfl⟩ := hu.fn; obtain rfl := hv.nilf
    cases hr; obtain ⟨a, b, c, hd⟩ := fn ht
    exact fin_eq ho (by simp) (by rw [eqGuard_at_func]; rfl) (eqn_fn2 9999 hd _ _ _)
  · obtain ⟨xs, hxs, rfl⟩ := hu.agg; obtain ⟨ys, hys, rfl⟩ := hv.agg
    have hg : P.eqGuardType P.depth t = false := by
      have ht' := ht
      unfold eqK at ht'
      simp only [Bool.and_eq_true, Bool.not_eq_true'] at ht'
      exact ht'.1
    exact fin_eq ho (by simp) (run_eqGuard_agg w op t x y xs ys hg) (aeqs_sound (d := 9998) ht hxs hys hr)
  · cases hr
end
end Go.Proofs.Ytpgoemmjhnnmoaa.Ab
