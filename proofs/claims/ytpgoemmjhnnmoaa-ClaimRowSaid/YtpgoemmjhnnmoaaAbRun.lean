/- Code that is run by fuel does what the model's code does: regions in the order of the text. -/
import Derived.Test.YtpgoemmjhnnmoaaAbCode
import Derived.LoopN
import Derived.Scope
import Derived.Orders
namespace Go.Proofs.Ytpgoemmjhnnmoaa.Ab
open Go
set_option linter.unusedVariables false

/-! ### numbers grow -/
theorem AH.wr_next {h h' : AH} {id off : Nat} {vs : List AV} (e : h.wr id off vs = some h') : h'.next = h.next := by
  unfold AH.wr at e
  split at e
  · split at e
    · cases e; rfl
    · cases e
  · cases e
theorem pureh_nx {h h' : AH} {o : Option AV} {v : AV} (e : pureh h o = some (v, h')) : h.next ≤ h'.next := by rw [(pureh_some e).2]; exact Nat.le_refl _
theorem map_nx {h h' : AH} {o : Option AV} {v : AV} (e : (o.map fun x => (x, h)) = some (v, h')) : h.next ≤ h'.next := by cases o <;> simp at e; rw [e.2]; exact Nat.le_refl _
theorem mapl_nx {h h' : AH} {o : Option (List AV)} {f : List AV → AV} {v : AV} (e : (o.map fun x => (f x, h)) = some (v, h')) : h.next ≤ h'.next := by cases o <;> simp at e; rw [e.2]; exact Nat.le_refl _
theorem mapw_nx {h h' : AH} {id off : Nat} {vs : List AV} {v u : AV} (e : ((h.wr id off vs).map fun x => (u, x)) = some (v, h')) : h.next ≤ h'.next := by
  cases hw : h.wr id off vs with
  | none => simp [hw] at e
  | some x => simp [hw] at e; rw [← e.2, AH.wr_next hw]; exact Nat.le_refl _
theorem aop_nx {o : AO} {e : Env} {h h' : AH} {v : AV} (r : aop o e h = some (v, h')) : h.next ≤ h'.next := by
  cases o <;> simp only [aop, aload, astore, aapp, acopy, aclear, amake, alookup, amapput, amapent, amapst, adel] at r <;>
    (repeat' (first | (cases r <;> first | exact Nat.le_refl _ | exact Nat.le_succ _ | (simp only [next_alloc, next_set]; omega)) | exact pureh_nx r | exact map_nx r | exact mapl_nx r | exact mapw_nx r | split at r))

/-! ### the look at code -/
def chkG (ops : Array Oper) : Option (Nat × Bool) → Option (Nat × Bool) → Bool
  | none, none => true
  | some (j, b), some (s, c) => b == c && decide ((ops[j]?).bind (·.dst) = some s)
  | _, _ => false
def chkD (nt : Nat) : Option Nat → Option Nat → Bool
  | none, none => true
  | some d, some d' => d == d' && decide (d < nt)
  | _, _ => false
def chk1 (P : Program) (lk : Lk) (nt : Nat) (ops : Array Oper) (o : Oper) (x : AOp) : Bool := chkOp P lk o.op x.o && chkD nt o.dst x.d && chkG ops o.guard x.g
def chkOps (P : Program) (lk : Lk) (nt : Nat) (ops : Array Oper) (xs : List AOp) : Bool := all2 (chk1 P lk nt ops) ops.toList xs

section
variable {P : Program} {lk : Lk} {ρ : Rho} {h : AH} {w : World} {nt : Nat} {e : Env} {a : Act}
theorem ER.put (er : ER lk ρ nt e a) {d d' : Option Nat} {v : AV} {x : Value} (hd : chkD nt d d' = true) (hv : VE lk ρ v x) : ER lk ρ nt (eput e d' v) (a.put d x) := by
  cases d with
  | none =>
    cases d' with
    | none => exact er
    | some _ => cases hd
  | some d =>
    cases d' with
    | none => cases hd
    | some d' =>
      simp only [chkD, Bool.and_eq_true, beq_iff_eq, decide_eq_true_eq] at hd
      obtain ⟨rfl, hlt⟩ := hd
      refine ⟨fun n => ?_, by simp [Act.put, er.size], er.defers⟩
      by_cases hn : d = n
      · subst hn
        have : d < a.tmps.size := by rw [er.size]; exact hlt
        simpa [eput, eget, Act.put, Array.getD, this] using hv
      · have := er.get n
        simp only [eput, eget, hn, if_false, Act.put]
        rw [show (a.tmps.setIfInBounds d x).getD n undef = a.tmps.getD n undef by
          simp [Array.getD_eq_getD_getElem?, Array.getElem?_setIfInBounds_ne hn]]
        exact this
theorem ER.keep (er : ER lk ρ nt e a) (kp : List Nat) : ER lk ρ nt (keepE kp e) a := by
  refine ⟨fun n => ?_, er.size, er.defers⟩
  have : eget (keepE kp e) n = eget e n ∨ eget (keepE kp e) n = .un := by
    unfold keepE
    induction kp with
    | nil => exact .inr rfl
    | cons k r ih =>
      simp only [List.map_cons, eget]
      split
      · rename_i hk; subst hk; exact .inl rfl
      · exact ih
  rcases this with h | h <;> rw [h]
  · exact er.get n
  · exact .of (.un _)

/-! ### guards -/
theorem guard_sound (er : ER lk ρ nt e a) {ops : Array Oper} {o : Oper} {g : Option (Nat × Bool)} (hc : chkG ops o.guard g = true) {x : Bool} (hg : guarded e g = some x) :
    Region.wanted o (yielded ops a.tmps) = x := by
  unfold Region.wanted
  cases hog : o.guard with
  | none =>
    rw [hog] at hc
    cases g with
    | none => simp [guarded] at hg; simp [hg]
    | some p => cases hc
  | some p =>
    obtain ⟨j, b⟩ := p
    rw [hog] at hc
    cases g with
    | none => cases hc
    | some q =>
      obtain ⟨s, c⟩ := q
      simp only [chkG, Bool.and_eq_true, beq_iff_eq, decide_eq_true_eq] at hc
      obtain ⟨rfl, hs⟩ := hc
      have hv := er.get s
      simp only [guarded] at hg
      simp only [yielded, hs, Option.bind_some]
      split at hg
      · rename_i y hy
        cases hg
        rw [hy] at hv
        have hv := hv.b
        rw [Array.getD_eq_getD_getElem?] at hv
        cases ht : a.tmps[s]? with
        | none => rw [ht] at hv; simp [undef] at hv
        | some z => rw [ht] at hv; simp at hv; subst hv; cases y <;> cases b <;> rfl
      · rename_i hy
        cases hg
        rw [hy] at hv
        obtain ⟨xs, hx, hv⟩ := hv.tup'
        rw [Array.getD_eq_getD_getElem?] at hv
        cases ht : a.tmps[s]? with
        | none => simp
        | some z => rw [ht] at hv; simp at hv; subst hv; simp
      · cases hg

/-! ### calls -/
def CallsOk (P : Program) (lk : Lk) (f : Nat) (args : List AV) (h : AH) (v : AV) (h' : AH) : Prop :=
  ∃ g fn, lk f = some g ∧ P.funcs[g]? = some fn ∧ fn.name ≠ "runtime.NumGoroutine" ∧ fn.body.isNone = false ∧
    ∀ (ρ : Rho) (w : World) (xs : Array Value), Rel lk ρ h w → F2 (VE lk ρ) args xs.toList → Free ρ h.next h'.next →
      Calls P g xs w fun e w' => ∃ x ρ', e = .returned x ∧ VE lk ρ' v x ∧ Rel lk ρ' h' w' ∧ Stp ρ h w ρ' h' w'
structure CSound (P : Program) (lk : Lk) (C : CallF) : Prop where
  ok : ∀ {f args h v h'}, C f args h = some (v, h') → CallsOk P lk f args h v h'
  nx : ∀ {f args h v h'}, C f args h = some (v, h') → h.next ≤ h'.next

theorem exOp_nx {C : CallF} (cs : CSound P lk C) {o : AO} {e : Env} {h h' : AH} {v : AV} (hr : exOp C o e h = some (v, h')) : h.next ≤ h'.next := by
  unfold exOp at hr
  split at hr
  · exact cs.nx hr
  · split at hr
    · exact cs.nx hr
    · cases hr
  · exact aop_nx hr
theorem stepOp_nx {C : CallF} (cs : CSound P lk C) {o : AOp} {e : Env} {h h' : AH} {v : AV} (hr : stepOp C o e h = some (v, h')) : h.next ≤ h'.next := by
  unfold stepOp at hr
  split at hr
  · exact exOp_nx cs hr
  · cases hr; exact Nat.le_refl _
  · cases hr
theorem run_callFunc {g : FuncId} {fn : Func} {xs : Array Value} (hf : P.funcs[g]? = some fn) (hn : fn.name ≠ "runtime.NumGoroutine") (hb : fn.body.isNone = false) :
    (callFunc g xs).run P w = .ok (.enter g xs) w := by
  have hb' : fn.body ≠ none := by intro e; simp [e] at hb
  simp [callFunc, hf, hn, hb']

theorem ptrs_F2 {ps : List (Nat × Nat)} {xs : List Value} (h : F2 (PR ρ) ps xs) : F2 (VE lk ρ) (ps.map fun p => AV.ptr p.1 p.2) xs := by
  rw [F2.map_left]
  refine h.mono fun p x hp => ?_
  obtain ⟨b, t, h1, rfl⟩ := hp
  exact (VC.ptr h1).e

/-- an operation that is wanted -/
theorem op_sound {C : CallF} (cs : CSound P lk C) (r : Rel lk ρ h w) (er : ER lk ρ nt e a) {o : Oper} {x : AO} (hc : chkOp P lk o.op x = true) {v : AV} {h' : AH}
    (hr : exOp C x e h = some (v, h')) (f : Free ρ h.next h'.next) {K : Act → World → Prop} {Q : Exit → Act → World → Prop}
    (hK : ∀ y w' ρ', VE lk ρ' v y → Rel lk ρ' h' w' → Stp ρ h w ρ' h' w' → K (a.put o.dst y) w') : o.wp P a w K Q := by
  have fin : ∀ {g : FuncId} {fn : Func} {xs : Array Value} {args : List AV} {k : Nat}, lk k = some g → C k args h = some (v, h') → F2 (VE lk ρ) args xs.toList →
      (execOp a.eval o).run P w = (callFunc g xs).run P w → o.wp P a w K Q := by
    intro g fn xs args k hk hcall hf he
    obtain ⟨g', fn', h1, h2, h3, h4, h5⟩ := cs.ok hcall
    rw [hk] at h1
    cases h1
    unfold Oper.wp
    rw [he, run_callFunc h2 h3 h4, Oper.upon_enter]
    refine (h5 ρ w xs r hf f).mono ?_
    rintro E w' ⟨y, ρ', rfl, h6, h7, h8⟩
    exact hK y w' ρ' h6 h7 h8
  unfold exOp at hr
  split at hr
  · rename_i k args
    obtain ⟨dst, op, ty, pos, after, guard⟩ := o
    simp only [chkOp] at hc
    split at hc
    · rename_i g as _
      simp only [Bool.and_eq_true, decide_eq_true_eq] at hc
      refine fin (fn := default) hc.1 hr (chkXs_sound er hc.2) ?_
      simp [execOp, resolve, Act.eval, Deferred.ofValue, invoke]
    · cases hc
  · rename_i fx args
    obtain ⟨dst, op, ty, pos, after, guard⟩ := o
    simp only [chkOp] at hc
    split at hc
    · rename_i q as _
      simp only [Bool.and_eq_true] at hc
      split at hr
      · rename_i k first cap hv
        have hq := chkX_sound hc.1 er
        rw [hv] at hq
        obtain ⟨g, f1, c1, h1, h2, h3, hx⟩ := hq.fn
        refine fin (fn := default) (xs := f1 ++ as.map a.eval ++ c1) h1 hr ?_ ?_
        · simp only [Array.toList_append]
          exact ((ptrs_F2 h2).append (chkXs_sound er hc.2)).append (ptrs_F2 h3)
        · simp [execOp, resolve, hx, Deferred.ofValue, invoke]
      · cases hr
    · cases hc
  · rename_i hn1 hn2
    obtain ⟨y, w', ρ', h1, h2, h3, h4⟩ := aop_sound (P := P) r er hc hr f
    unfold Oper.wp
    rcases h1 with h1 | ⟨h1, rfl⟩
    · rw [h1, Oper.upon_value]; exact hK y w' ρ' h2 h3 h4
    · rw [h1, Oper.upon_skip]; exact hK _ w' ρ' h2 h3 h4

/-- an operation, wanted or not -/
theorem step_sound {C : CallF} (cs : CSound P lk C) (r : Rel lk ρ h w) (er : ER lk ρ nt e a) {ops : Array Oper} {i : Nat} {o : Oper} (hi : ops[i]? = some o) {x : AOp}
    (hc : chk1 P lk nt ops o x = true) {v : AV} {h' : AH} (hr : stepOp C x e h = some (v, h')) (f : Free ρ h.next h'.next) {K : Act → World → Prop} {Q : Exit → Act → World → Prop}
    (hK : ∀ a' w' ρ', ER lk ρ' nt (eput e x.d v) a' → Rel lk ρ' h' w' → Stp ρ h w ρ' h' w' → (∃ y, VE lk ρ' v y) → K a' w') : wpOp P ops Q i K a w := by
  simp only [chk1, Bool.and_eq_true] at hc
  unfold stepOp at hr
  unfold wpOp
  simp only [hi]
  split at hr
  · rename_i hg
    rw [if_pos (guard_sound er hc.2 hg)]
    exact .inl (op_sound cs r er hc.1.1 hr f fun y w' ρ' h1 h2 h3 => hK _ _ _ ((er.mono (h3.le f)).put hc.1.2 h1) h2 h3 ⟨_, h1⟩)
  · rename_i hg
    cases hr
    rw [if_neg (by rw [guard_sound er hc.2 hg]; simp)]
    exact hK _ _ _ (er.put hc.1.2 (.tup trivial)) r (.refl _ _ _) ⟨.tuple #[], .tup trivial⟩
  · cases hr

theorem exOps_nx {C : CallF} (cs : CSound P lk C) : ∀ {xs : List AOp} {e : Env} {h : AH} {e' : Env} {h' : AH}, exOps C xs e h = some (e', h') → h.next ≤ h'.next
  | [], e, h, e', h', hr => by simp [exOps] at hr; rw [hr.2]; exact Nat.le_refl _
  | x :: xs, e, h, e', h', hr => by
    simp only [exOps] at hr
    split at hr
    · rename_i v h1 h2
      exact Nat.le_trans (stepOp_nx cs h2) (exOps_nx cs hr)
    · cases hr

theorem exOps_sound {C : CallF} (cs : CSound P lk C) {ops : Array Oper} {Q : Exit → Act → World → Prop} : ∀ {l : List Oper} {xs : List AOp} {k : Nat} {ρ : Rho} {e : Env} {h : AH} {a : Act} {w : World} {e' : Env} {h' : AH},
    ops.toList.drop k = l → all2 (chk1 P lk nt ops) l xs = true → exOps C xs e h = some (e', h') → Rel lk ρ h w → ER lk ρ nt e a → Free ρ h.next h'.next →
    (∀ a' w' ρ', ER lk ρ' nt e' a' → Rel lk ρ' h' w' → Stp ρ h w ρ' h' w' → Q .normal a' w') → wpOps P ops Q (List.range' k l.length) a w
  | [], xs, k, ρ, e, h, a, w, e', h', hl, hc, hr, r, er, f, hQ => by
    cases xs with
    | nil => simp [exOps] at hr; obtain ⟨rfl, rfl⟩ := hr; exact hQ _ _ _ er r (.refl _ _ _)
    | cons => simp [all2] at hc
  | o :: l, xs, k, ρ, e, h, a, w, e', h', hl, hc, hr, r, er, f, hQ => by
    cases xs with
    | nil => simp [all2] at hc
    | cons x xs =>
      simp only [all2, Bool.and_eq_true] at hc
      simp only [exOps] at hr
      split at hr
      · rename_i v h1 hs
        have hi : ops[k]? = some o := by
          rw [← Array.getElem?_toList]
          have : (ops.toList.drop k)[0]? = some o := by rw [hl]; rfl
          simpa using this
        rw [List.length_cons, List.range'_succ, wpOps_cons]
        have n2 := exOps_nx cs hr
        refine step_sound cs r er hi hc.1 hs (f.fst n2) fun a' w' ρ' e1 r1 s1 _ => ?_
        refine exOps_sound cs (k := k + 1) ?_ hc.2 hr r1 e1 (Free.snd s1 f) fun a2 w2 ρ2 e2 r2 s2 => hQ a2 w2 ρ2 e2 r2 (s1.trans s2)
        have := congrArg List.tail hl
        simpa [List.tail_drop] using this
      · cases hr
end
end Go.Proofs.Ytpgoemmjhnnmoaa.Ab
