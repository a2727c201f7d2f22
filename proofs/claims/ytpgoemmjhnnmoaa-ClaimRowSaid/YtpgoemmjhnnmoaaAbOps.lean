/- The operations: a table-driven look that an abstract operation is the model's, and that it then does what the model's does. Part one. -/
import Derived.Test.YtpgoemmjhnnmoaaAbRel
import Derived.WalkLawsBesides
import Derived.Laws.StructEq
import Derived.Laws.Concat
namespace Go.Proofs.Ytpgoemmjhnnmoaa.Ab
open Go
set_option linter.unusedVariables false

/-! ### constants and operands -/
def chkV : Value → AV → Bool
  | .bool a, .b b => a == b
  | .int k n, .i k' n' => decide (k = k') && decide (n = n')
  | .string s, .s l => decide (s.data.toList = l)
  | .pointer none, .nilp => true
  | .slice none 0 0, .nils => true
  | .map none, .nilm => true
  | .nilFunc, .nilf => true
  | _, _ => false
theorem chkV_sound {lk : Lk} {ρ : Rho} {x : Value} {v : AV} (h : chkV x v = true) : VC lk ρ v x := by
  unfold chkV at h
  split at h
  · have := beq_iff_eq.1 h; subst this; exact .b _
  · simp only [Bool.and_eq_true, decide_eq_true_eq] at h
    obtain ⟨rfl, rfl⟩ := h
    exact .i _ _
  · exact .s _ _ (of_decide_eq_true h)
  · exact .nilp
  · exact .nils
  · exact .nilm
  · exact .nilf
  · cases h
def all2 {α β : Type} (f : α → β → Bool) : List α → List β → Bool
  | [], [] => true
  | x :: xs, y :: ys => f x y && all2 f xs ys
  | _, _ => false
theorem all2_sound {α β : Type} {f : α → β → Bool} {R : β → α → Prop} (hf : ∀ x y, f x y = true → R y x) : ∀ {xs : List α} {ys : List β}, all2 f xs ys = true → F2 R ys xs
  | [], [], _ => trivial
  | x :: xs, y :: ys, h => by
    simp only [all2, Bool.and_eq_true] at h
    exact ⟨hf _ _ h.1, all2_sound hf h.2⟩
  | [], _ :: _, h => by cases h
  | _ :: _, [], h => by cases h
/-- a zero value: its cells; as a value -/
def chkZ (x : Value) (z : List AV) : Bool := all2 chkV x.cells.toList z
def chkZV : Value → AV → Bool
  | .agg cs, .agg z => all2 chkV cs.toList z
  | x, v => chkV x v
theorem chkZV_sound {lk : Lk} {ρ : Rho} {x : Value} {v : AV} (h : chkZV x v = true) : VR lk ρ v x := by
  unfold chkZV at h
  split at h
  · exact .agg (all2_sound (fun _ _ => chkV_sound) h)
  · exact .cell (chkV_sound h)

structure ER (lk : Lk) (ρ : Rho) (nt : Nat) (e : Env) (a : Act) : Prop where
  get : ∀ n, VE lk ρ (eget e n) (a.tmps.getD n undef)
  size : a.tmps.size = nt
  defers : a.defers = []
theorem ER.mono {lk : Lk} {ρ ρ' : Rho} {nt : Nat} {e : Env} {a : Act} (h : ρ.le ρ') (r : ER lk ρ nt e a) : ER lk ρ' nt e a := ⟨fun n => (r.get n).mono h, r.size, r.defers⟩

def chkX (lk : Lk) : Operand → AX → Bool
  | .tmp n, .t m => n == m
  | .const x, .c v => chkV x v
  | .func f, .c (.fn g [] []) => decide (lk g = some f)
  | _, _ => false
theorem chkX_sound {lk : Lk} {ρ : Rho} {nt : Nat} {e : Env} {a : Act} {o : Operand} {x : AX} (h : chkX lk o x = true) (r : ER lk ρ nt e a) : VE lk ρ (ev e x) (a.eval o) := by
  unfold chkX at h
  split at h
  · have := beq_iff_eq.1 h
    subst this
    exact r.get _
  · exact (chkV_sound h).e
  · exact (VC.fn (first := []) (cap := []) (first' := #[]) (cap' := #[]) (of_decide_eq_true h) trivial trivial).e
  · cases h
def chkO (lk : Lk) : Option Operand → Option AX → Bool
  | none, none => true
  | some o, some x => chkX lk o x
  | _, _ => false

/-! ### types -/
def aggT (P : Program) (t : TypeId) : Option Bool :=
  match P.underlying t with
  | some (.struct _) | some (.array _ _) => some true
  | some _ => some false
  | none => none
def szT (P : Program) (t : TypeId) : Option Nat := (P.info? t).map (·.size)
def zT (P : Program) (t : TypeId) : Option Value := (P.info? t).bind (·.zero)
def byT (P : Program) (t : TypeId) : Option Nat := (P.info? t).map (·.bytes)

section
variable {P : Program} {w : World}
theorem run_szT {t : TypeId} {n : Nat} (h : szT P t = some n) : (sizeOf t).run P w = .ok n w := by
  unfold szT at h
  cases hi : P.info? t with
  | none => simp [hi] at h
  | some i => simp [hi] at h; subst h; simp [sizeOf, typeInfo, hi]
theorem run_zT {t : TypeId} {z : Value} (h : zT P t = some z) : (zeroValue t).run P w = .ok z w := by
  unfold zT at h
  cases hi : P.info? t with
  | none => simp [hi] at h
  | some i => simp [hi] at h; simp [zeroValue, typeInfo, hi, h]
theorem run_aggT {t : TypeId} {b : Bool} (h : aggT P t = some b) : (isAgg t).run P w = .ok b w := by
  unfold aggT at h
  unfold isAgg
  cases hu : P.underlying t with
  | none => simp [hu] at h
  | some d => simp only [Sem.run_bind, run_underlying hu]; cases d <;> simp_all
end

/-! ### what an operation leaves -/
def OpS (lk : Lk) (ρ : Rho) (h : AH) (w : World) (r : Result Next) (v : AV) (h' : AH) : Prop :=
  ∃ x w' ρ', (r = .ok (.value x) w' ∨ (r = .ok .skip w' ∧ x = undef)) ∧ VE lk ρ' v x ∧ Rel lk ρ' h' w' ∧ Stp ρ h w ρ' h' w'
section
variable {P : Program} {lk : Lk} {ρ : Rho} {h : AH} {w : World}
theorem OpS.pur (r : Rel lk ρ h w) {s : Sem Value} {x : Value} {v : AV} (hs : s.run P w = .ok x w) (hv : VE lk ρ v x) : OpS lk ρ h w ((do pure (Next.value (← s)) : Sem Next).run P w) v h :=
  ⟨x, w, ρ, .inl (by simp [hs]), hv, r, .refl _ _ _⟩
theorem OpS.val {h' : AH} {s : Sem Value} {x : Value} {w' : World} {ρ' : Rho} {v : AV} (hs : s.run P w = .ok x w') (hv : VE lk ρ' v x) (r : Rel lk ρ' h' w' ∧ Stp ρ h w ρ' h' w') : OpS lk ρ h w ((do pure (Next.value (← s)) : Sem Next).run P w) v h' :=
  ⟨x, w', ρ', .inl (by simp [hs]), hv, r.1, r.2⟩
theorem OpS.unit {h' : AH} {s : Sem Unit} {w' : World} {ρ' : Rho} (hs : s.run P w = .ok () w') (r : Rel lk ρ' h' w' ∧ Stp ρ h w ρ' h' w') : OpS lk ρ h w ((do s; pure Next.skip : Sem Next).run P w) (.tup []) h' :=
  ⟨undef, w', ρ', .inr ⟨by simp [hs], rfl⟩, .tup trivial, r.1, r.2⟩
theorem pureh_some {h h' : AH} {o : Option AV} {v : AV} (e : pureh h o = some (v, h')) : o = some v ∧ h' = h := by
  cases o with
  | none => simp [pureh] at e
  | some x => simp [pureh] at e; exact ⟨by rw [e.1], e.2.symm⟩

/-! ### numbers, texts -/
theorem run_intBits (op : BinOp) (k : IntKind) (x y : Int) {v : AV} (ho : op = .and ∨ op = .or ∨ op = .xor ∨ op = .andNot) (hv : ibin op k x y = some v) :
    ∃ z, (Op.intBits op k x y).run P w = .ok (.int k z) w ∧ v = .i k z := by
  rcases ho with rfl | rfl | rfl | rfl <;> simp only [ibin, bitw, Option.some.injEq] at hv <;> subst hv <;> exact ⟨_, rfl, rfl⟩
theorem ibin_sound {op : BinOp} {t : TypeId} {x y : Operand} {k : IntKind} {a b : Int} {v : AV} (h1 : op ≠ .shl) (h2 : op ≠ .shr) (hv : ibin op k a b = some v) :
    ∃ z, (do eqGuard op t x y (.int k a) (.int k b); binOp op t (.int k a) (.int k b)).run P w = .ok z w ∧ VE lk ρ v z := by
  rw [eqGuard_at_int]
  simp only [pure_bind]
  cases op with
  | shl => exact absurd rfl h1
  | shr => exact absurd rfl h2
  | add => simp only [ibin, Option.some.injEq] at hv; subst hv; exact ⟨_, by simp [binOp_add, Op.intArith], (VC.i _ _).e⟩
  | sub => simp only [ibin, Option.some.injEq] at hv; subst hv; exact ⟨_, by simp [binOp_sub, Op.intArith], (VC.i _ _).e⟩
  | mul => simp only [ibin, Option.some.injEq] at hv; subst hv; exact ⟨_, by simp [binOp_mul, Op.intArith], (VC.i _ _).e⟩
  | quo =>
    simp only [ibin] at hv
    split at hv
    · cases hv
    · rename_i hb
      cases hv; exact ⟨_, by simp [binOp_quo, Op.intDiv, hb], (VC.i _ _).e⟩
  | rem =>
    simp only [ibin] at hv
    split at hv
    · cases hv
    · rename_i hb
      cases hv; exact ⟨_, by simp [binOp_rem, Op.intDiv, hb], (VC.i _ _).e⟩
  | and => obtain ⟨z, h3, rfl⟩ := run_intBits (P := P) (w := w) .and k a b (by simp) hv; exact ⟨_, by rw [binOp_and]; exact h3, (VC.i _ _).e⟩
  | or => obtain ⟨z, h3, rfl⟩ := run_intBits (P := P) (w := w) .or k a b (by simp) hv; exact ⟨_, by rw [binOp_or]; exact h3, (VC.i _ _).e⟩
  | xor => obtain ⟨z, h3, rfl⟩ := run_intBits (P := P) (w := w) .xor k a b (by simp) hv; exact ⟨_, by rw [binOp_xor]; exact h3, (VC.i _ _).e⟩
  | andNot => obtain ⟨z, h3, rfl⟩ := run_intBits (P := P) (w := w) .andNot k a b (by simp) hv; exact ⟨_, by rw [binOp_andNot]; exact h3, (VC.i _ _).e⟩
  | eql =>
    simp only [ibin, Option.some.injEq] at hv; subst hv
    exact ⟨.bool (a == b), by simp [binOp_eql], by rw [show (a == b) = decide (a = b) from rfl]; exact (VC.b _).e⟩
  | neq =>
    simp only [ibin, Option.some.injEq] at hv; subst hv
    exact ⟨.bool (a != b), by simp [binOp_neq], by rw [show (a != b) = !decide (a = b) from rfl]; exact (VC.b _).e⟩
  | lss => simp only [ibin, Option.some.injEq] at hv; subst hv; exact ⟨_, by simp only [binOp_lss]; rfl, (VC.b _).e⟩
  | leq => simp only [ibin, Option.some.injEq] at hv; subst hv; exact ⟨_, by simp only [binOp_leq]; rfl, (VC.b _).e⟩
  | gtr => simp only [ibin, Option.some.injEq] at hv; subst hv; exact ⟨_, by simp only [binOp_gtr]; rfl, (VC.b _).e⟩
  | geq => simp only [ibin, Option.some.injEq] at hv; subst hv; exact ⟨_, by simp only [binOp_geq]; rfl, (VC.b _).e⟩
theorem ishift_sound {op : BinOp} {t : TypeId} {x y : Operand} {k k' : IntKind} {a b : Int} {v : AV} (ho : op = .shl ∨ op = .shr) (hv : ishift op k a b = some v) :
    ∃ z, (do eqGuard op t x y (.int k a) (.int k' b); binOp op t (.int k a) (.int k' b)).run P w = .ok z w ∧ VE lk ρ v z := by
  rw [eqGuard_at_int]
  simp only [pure_bind]
  unfold ishift at hv
  split at hv
  · cases hv
  · rename_i hb
    rcases ho with rfl | rfl
    · simp only [Option.some.injEq] at hv; subst hv; exact ⟨_, by simp only [binOp_shl, Op.shift, if_neg hb]; rfl, (VC.i _ _).e⟩
    · simp only [Option.some.injEq] at hv; subst hv; exact ⟨_, by simp only [binOp_shr, Op.shift, if_neg hb]; rfl, (VC.i _ _).e⟩
theorem bytesLess_eq : ∀ (x y : List UInt8), Op.bytesLess x y = bytesLess x y
  | [], [] => rfl
  | _ :: _, [] => rfl
  | [], _ :: _ => rfl
  | a :: x, b :: y => by simp only [Op.bytesLess, bytesLess, bytesLess_eq x y]
theorem beqd (a b : List UInt8) : (a == b) = decide (a = b) := by by_cases h : a = b <;> simp [h]
theorem sbin_sound {op : BinOp} {t : TypeId} {x y : Operand} {a b : ByteArray} {v : AV} (hv : sbin op a.data.toList b.data.toList = some v) :
    ∃ z, (do eqGuard op t x y (.string a) (.string b); binOp op t (.string a) (.string b)).run P w = .ok z w ∧ VE lk ρ v z := by
  rw [eqGuard_at_string]
  simp only [pure_bind]
  have ha : a.toList = a.data.toList := ByteArray.toList_eq a
  have hb : b.toList = b.data.toList := ByteArray.toList_eq b
  have bd : ∀ c : Bool, VE lk ρ (.b c) (.bool c) := fun c => (VC.b c).e
  cases op with
  | add =>
    simp only [sbin] at hv
    split at hv
    · rename_i hr
      cases hv
      refine ⟨.string (a ++ b), ?_, (VC.s _ _ (by simp [ByteArray.data_append])).e⟩
      have hr' : a.size + b.size ≤ 9223372036854775807 := by
        simp only [room, Array.length_toList] at hr
        have e1 : a.size = a.data.size := rfl
        have e2 : b.size = b.data.size := rfl
        omega
      simp only [binOp_string_add]
      exact run_string_add_sum w a b hr'
    · cases hv
  | eql => simp only [sbin, Option.some.injEq] at hv; subst hv; exact ⟨_, by simp only [binOp_string_eql, ha, hb, beqd]; rfl, bd _⟩
  | neq => simp only [sbin, Option.some.injEq] at hv; subst hv; exact ⟨_, by simp only [binOp_string_neq, ha, hb, beqd]; rfl, bd _⟩
  | lss => simp only [sbin, Option.some.injEq] at hv; subst hv; exact ⟨.bool (Op.bytesLess a.toList b.toList), by simp [binOp, Op.stringOp], by rw [ha, hb, bytesLess_eq]; (try rw [beqd]); exact bd _⟩
  | leq => simp only [sbin, Option.some.injEq] at hv; subst hv; exact ⟨.bool (Op.bytesLess a.toList b.toList || a.toList == b.toList), by simp [binOp, Op.stringOp], by rw [ha, hb, bytesLess_eq]; (try rw [beqd]); exact bd _⟩
  | gtr => simp only [sbin, Option.some.injEq] at hv; subst hv; exact ⟨.bool (!(Op.bytesLess a.toList b.toList || a.toList == b.toList)), by simp [binOp, Op.stringOp], by rw [ha, hb, bytesLess_eq]; (try rw [beqd]); exact bd _⟩
  | geq => simp only [sbin, Option.some.injEq] at hv; subst hv; exact ⟨.bool (!Op.bytesLess a.toList b.toList), by simp [binOp, Op.stringOp], by rw [ha, hb, bytesLess_eq]; (try rw [beqd]); exact bd _⟩
  | _ => simp [sbin] at hv
theorem abin_sound {op : BinOp} {t : TypeId} {x y : Operand} {u v : AV} {a b : Value} {r : AV} (hu : VE lk ρ u a) (hv : VE lk ρ v b) (hr : abin op u v = some r) :
    ∃ z, (do eqGuard op t x y a b; binOp op t a b).run P w = .ok z w ∧ VE lk ρ r z := by
  unfold abin at hr
  split at hr
  · obtain rfl := hu.i; obtain rfl := hv.i; exact ishift_sound (.inl rfl) hr
  · obtain rfl := hu.i; obtain rfl := hv.i; exact ishift_sound (.inr rfl) hr
  · rename_i h1 h2
    obtain rfl := hu.i; obtain rfl := hv.i
    split at hr
    · rename_i e
      subst e
      exact ibin_sound (fun e => h1 e) (fun e => h2 e) hr
    · cases hr
  · obtain ⟨y1, rfl, rfl⟩ := hu.s
    obtain ⟨y2, rfl, rfl⟩ := hv.s
    exact sbin_sound hr
  · cases hr
end
end Go.Proofs.Ytpgoemmjhnnmoaa.Ab
