/- The law of the machine: a table that passes the look runs as the program does. -/
import Derived.Test.YtpgoemmjhnnmoaaAbExec
namespace Go.Proofs.Ytpgoemmjhnnmoaa.Ab
open Go
set_option linter.unusedVariables false

/-! ### the look -/
def chkC (P : Program) (lk : Lk) (nt : Nat) : Code → AC → Bool
  | .skip, .skip => true
  | .label _, .skip => true
  | .ret, .ret => true
  | .exit i, .exit j => i == j
  | .seq a b, .seq x y => chkC P lk nt a x && chkC P lk nt b y
  | .cond c a b, .cond x y z => chkX lk c x && chkC P lk nt a y && chkC P lk nt b z
  | .block i b, .block j y => (i == j) && chkC P lk nt b y
  | .loop b, .loop y => chkC P lk nt b y
  | .scope b, y => chkC P lk nt b y
  | .region _ ops false, .reg xs _ => chkOps P lk nt ops xs
  | .region _ ops true, .regd xs rc _ => chkRD P lk nt ops xs rc
  | _, _ => false
def chkR (P : Program) : ResultVar → RV → Bool
  | .tmp t, .t n => t == n
  | .cell a ty, .cell n sz => (a == n) && ldK P ty sz
  | _, _ => false
def chkFn (P : Program) (lk : Lk) (fn : Func) (F : AFun) : Bool :=
  !(fn.name == "runtime.NumGoroutine") && Nat.ble F.np fn.ntmps && all2 (chkR P) fn.results.toList F.res && (match fn.body with | some c => chkC P lk fn.ntmps c F.body | none => false)
def chkF (P : Program) (lk : Lk) (f : Nat) (F : AFun) : Bool :=
  match lk f with
  | some g => (match P.funcs[g]? with | some fn => chkFn P lk fn F | none => false)
  | none => false

section
variable {P : Program} {lk : Lk} {nt : Nat} {C : CallF}
def XT.of : XT → Exit
  | .nrm => .normal
  | .ret => .ret
  | .ex i => .exit i
theorem exTr_nx (cs : CSound P lk C) : ∀ {xs : List AOp} {e e' : Env} {h h' : AH} {tr : List (Env × AH × AV)}, exTr C xs e h = some (tr, e', h') → h.next ≤ h'.next := fun hr => by
  obtain ⟨E, H, v, T, rfl, rfl, rfl, rfl, t1, t2⟩ := exTr_tr hr
  exact T.mono cs _ _ (Nat.zero_le _) (Nat.le_refl _)
theorem exL_nx {B : Env → AH → Option (XT × Env × AH)} (hB : ∀ {e h t e' h'}, B e h = some (t, e', h') → h.next ≤ h'.next) : ∀ {n : Nat} {e : Env} {h : AH} {t : XT} {e' : Env} {h' : AH}, exL B n e h = some (t, e', h') → h.next ≤ h'.next
  | 0, e, h, t, e', h', hr => by cases hr
  | n + 1, e, h, t, e', h', hr => by
    simp only [exL] at hr
    split at hr
    · rename_i h1; exact Nat.le_trans (hB h1) (exL_nx hB hr)
    · rename_i h1; cases hr; exact hB h1
    · rename_i h1; cases hr; exact hB h1
    · cases hr
theorem exC_nx (cs : CSound P lk C) {n : Nat} : ∀ {c : AC} {e : Env} {h : AH} {t : XT} {e' : Env} {h' : AH}, exC C n c e h = some (t, e', h') → h.next ≤ h'.next
  | .skip, e, h, t, e', h', hr => by cases hr; exact Nat.le_refl _
  | .ret, e, h, t, e', h', hr => by cases hr; exact Nat.le_refl _
  | .exit _, e, h, t, e', h', hr => by cases hr; exact Nat.le_refl _
  | .seq a b, e, h, t, e', h', hr => by
    simp only [exC] at hr
    split at hr
    · rename_i h1; exact Nat.le_trans (exC_nx cs h1) (exC_nx cs hr)
    · rename_i h1; cases hr; exact exC_nx cs h1
    · rename_i h1; cases hr; exact exC_nx cs h1
    · cases hr
  | .cond c a b, e, h, t, e', h', hr => by
    simp only [exC] at hr
    split at hr
    · exact exC_nx cs hr
    · exact exC_nx cs hr
    · cases hr
  | .block i b, e, h, t, e', h', hr => by
    simp only [exC] at hr
    split at hr
    · rename_i h1; split at hr <;> cases hr <;> exact exC_nx cs h1
    · rename_i h1; cases hr; exact exC_nx cs h1
    · rename_i h1; cases hr; exact exC_nx cs h1
    · cases hr
  | .loop b, e, h, t, e', h', hr => by
    simp only [exC] at hr
    exact exL_nx (exC_nx cs (c := b)) hr
  | .reg ops kp, e, h, t, e', h', hr => by
    simp only [exC] at hr
    split at hr
    · rename_i h1; cases hr; exact exOps_nx cs h1
    · cases hr
  | .regd ops rc kp, e, h, t, e', h', hr => by
    simp only [exC] at hr
    split at hr
    · rename_i h1
      split at hr
      · cases hr; exact exTr_nx cs h1
      · cases hr
    · cases hr

/-- where code arrives -/
def Post (P : Program) (lk : Lk) (nt : Nat) (ρ : Rho) (h : AH) (w : World) (t : XT) (e' : Env) (h' : AH) : Exit → Act → World → Prop :=
  fun X a' w' => X = t.of ∧ ∃ ρ', ER lk ρ' nt e' a' ∧ Rel lk ρ' h' w' ∧ Stp ρ h w ρ' h' w'

theorem exL_sound {B : Env → AH → Option (XT × Env × AH)} {c : Code} (hB : ∀ {e h t e' h'}, B e h = some (t, e', h') → h.next ≤ h'.next)
    (hc : ∀ {e h t e' h'}, B e h = some (t, e', h') → ∀ {ρ a w}, Rel lk ρ h w → ER lk ρ nt e a → Free ρ h.next h'.next → c.wp P (Post P lk nt ρ h w t e' h') a w) :
    ∀ {n : Nat} {e : Env} {h : AH} {t : XT} {e' : Env} {h' : AH}, exL B n e h = some (t, e', h') → ∀ {ρ : Rho} {a : Act} {w : World}, Rel lk ρ h w → ER lk ρ nt e a → Free ρ h.next h'.next →
      Code.rounds P c (Post P lk nt ρ h w t e' h') n a w
  | 0, e, h, t, e', h', hr, ρ, a, w, r, er, f => by cases hr
  | n + 1, e, h, t, e', h', hr, ρ, a, w, r, er, f => by
    rw [rounds_succ]
    simp only [exL] at hr
    split at hr
    · rename_i e1 h1 hb
      refine wp_mono (hc hb r er (f.fst (exL_nx hB hr))) ?_
      rintro X a1 w1 ⟨rfl, ρ1, er1, r1, s1⟩
      show Code.rounds P c _ n a1 w1
      have := exL_sound hB hc hr r1 er1 (Free.snd s1 f)
      have mono : ∀ (n : Nat) (a : Act) (w' : World), Code.rounds P c (Post P lk nt ρ1 h1 w1 t e' h') n a w' → Code.rounds P c (Post P lk nt ρ h w t e' h') n a w' := by
        intro n
        induction n with
        | zero => intro a w' hh; exact hh
        | succ n ih =>
          intro a w' hh
          rw [rounds_succ] at hh ⊢
          refine wp_mono hh ?_
          intro X a2 w2 hX
          have lift : Post P lk nt ρ1 h1 w1 t e' h' X a2 w2 → Post P lk nt ρ h w t e' h' X a2 w2 := fun ⟨p1, ρ2, p2, p3, p4⟩ => ⟨p1, ρ2, p2, p3, s1.trans p4⟩
          cases X with
          | normal => exact ih a2 w2 hX
          | _ => exact lift hX
      exact mono n a1 w1 this
    · rename_i hb
      cases hr
      refine wp_mono (hc hb r er f) ?_
      rintro X a1 w1 ⟨rfl, h1⟩
      exact ⟨rfl, h1⟩
    · rename_i hb
      cases hr
      refine wp_mono (hc hb r er f) ?_
      rintro X a1 w1 ⟨rfl, h1⟩
      exact ⟨rfl, h1⟩
    · cases hr

theorem exC_sound (cs : CSound P lk C) (hmix : P.follows .mixedOrders = true) {n : Nat} : ∀ (c : Code) {x : AC}, chkC P lk nt c x = true → ∀ {e : Env} {h : AH} {t : XT} {e' : Env} {h' : AH}, exC C n x e h = some (t, e', h') →
    ∀ {ρ : Rho} {a : Act} {w : World}, Rel lk ρ h w → ER lk ρ nt e a → Free ρ h.next h'.next → c.wp P (Post P lk nt ρ h w t e' h') a w := by
  intro c
  induction c with
  | skip =>
    intro x hc e h t e' h' hr ρ a w r er f
    cases x <;> simp only [chkC] at hc <;> try contradiction
    cases hr
    exact wp_skip ⟨rfl, ρ, er, r, .refl _ _ _⟩
  | label l =>
    intro x hc e h t e' h' hr ρ a w r er f
    cases x <;> simp only [chkC] at hc <;> try contradiction
    cases hr
    exact wp_label ⟨rfl, ρ, er, r, .refl _ _ _⟩
  | ret =>
    intro x hc e h t e' h' hr ρ a w r er f
    cases x <;> simp only [chkC] at hc <;> try contradiction
    cases hr
    exact wp_ret ⟨rfl, ρ, er, r, .refl _ _ _⟩
  | exit i =>
    intro x hc e h t e' h' hr ρ a w r er f
    cases x <;> simp only [chkC] at hc <;> try contradiction
    simp only [beq_iff_eq] at hc
    subst hc
    cases hr
    exact wp_exit ⟨rfl, ρ, er, r, .refl _ _ _⟩
  | seq a b iha ihb =>
    intro x hc e h t e' h' hr ρ ac w r er f
    cases x <;> simp only [chkC] at hc <;> try contradiction
    rename_i xa xb
    simp only [Bool.and_eq_true] at hc
    simp only [exC] at hr
    refine wp_seq ?_
    split at hr
    · rename_i e1 h1 hx
      refine wp_mono (iha hc.1 hx r er (f.fst (exC_nx cs hr))) ?_
      rintro X a1 w1 ⟨rfl, ρ1, er1, r1, s1⟩
      refine wp_mono (ihb hc.2 hr r1 er1 (Free.snd s1 f)) ?_
      rintro X a2 w2 ⟨rfl, ρ2, er2, r2, s2⟩
      exact ⟨rfl, ρ2, er2, r2, s1.trans s2⟩
    · rename_i hx
      cases hr
      refine wp_mono (iha hc.1 hx r er f) ?_
      rintro X a1 w1 ⟨rfl, h1⟩
      exact ⟨rfl, h1⟩
    · rename_i hx
      cases hr
      refine wp_mono (iha hc.1 hx r er f) ?_
      rintro X a1 w1 ⟨rfl, h1⟩
      exact ⟨rfl, h1⟩
    · cases hr
  | cond q a b iha ihb =>
    intro x hc e h t e' h' hr ρ ac w r er f
    cases x <;> simp only [chkC] at hc <;> try contradiction
    simp only [Bool.and_eq_true] at hc
    simp only [exC] at hr
    have hq := chkX_sound hc.1.1 er
    split at hr
    · rename_i hv
      rw [hv] at hq
      exact wp_cond_true hq.b (iha hc.1.2 hr r er f)
    · rename_i hv
      rw [hv] at hq
      exact wp_cond_false hq.b (ihb hc.2 hr r er f)
    · cases hr
  | block i b ih =>
    intro x hc e h t e' h' hr ρ a w r er f
    cases x <;> simp only [chkC] at hc <;> try contradiction
    simp only [Bool.and_eq_true, beq_iff_eq] at hc
    obtain ⟨rfl, hc⟩ := hc
    simp only [exC] at hr
    refine wp_block ?_
    split at hr
    · rename_i j e1 h1 hx
      split at hr
      · rename_i hj
        cases hr
        refine wp_mono (ih hc hx r er f) ?_
        rintro X a1 w1 ⟨rfl, p⟩
        simp only [XT.of, Exit.inBlock, hj, if_true]
        exact ⟨rfl, p⟩
      · rename_i hj
        cases hr
        refine wp_mono (ih hc hx r er f) ?_
        rintro X a1 w1 ⟨rfl, p⟩
        simp only [XT.of, Exit.inBlock, hj, if_false]
        exact ⟨rfl, p⟩
    · rename_i hx
      cases hr
      refine wp_mono (ih hc hx r er f) ?_
      rintro X a1 w1 ⟨rfl, p⟩
      exact ⟨rfl, p⟩
    · rename_i hx
      cases hr
      refine wp_mono (ih hc hx r er f) ?_
      rintro X a1 w1 ⟨rfl, p⟩
      exact ⟨rfl, p⟩
    · cases hr
  | loop b ih =>
    intro x hc e h t e' h' hr ρ a w r er f
    cases x <;> simp only [chkC] at hc <;> try contradiction
    simp only [exC] at hr
    exact wp_loop_rounds n (exL_sound (exC_nx cs) (fun {_ _ _ _ _} hb {_ _ _} r er f => ih hc hb r er f) hr r er f)
  | scope b ih =>
    intro x hc e h t e' h' hr ρ a w r er f
    have hc : chkC P lk nt b x = true := by cases x <;> exact hc
    refine wp_scope_straight (wp_mono (ih hc hr r er f) ?_)
    rintro X a1 w1 ⟨rfl, p⟩
    cases t <;> exact ⟨rfl, p⟩
  | region id ops dr =>
    intro x hc e h t e' h' hr ρ a w r er f
    cases dr with
    | false =>
      cases x <;> simp only [chkC] at hc <;> try contradiction
      rename_i xs kp
      simp only [exC] at hr
      split at hr
      · rename_i e1 h1 hx
        cases hr
        have := exOps_sound cs (Q := Post P lk nt ρ h w .nrm (keepE kp e1) h') (k := 0) (l := ops.toList) (by simp) hc hx r er f fun a' w' ρ' er' r' s' => ⟨rfl, ρ', er'.keep kp, r', s'⟩
        refine wp_region ?_
        rw [List.range_eq_range']
        simpa using this
      · cases hr
    | true =>
      cases x <;> simp only [chkC] at hc <;> try contradiction
      rename_i xs rc kp
      simp only [exC] at hr
      split at hr
      · rename_i tr e1 h1 hx
        split at hr
        · rename_i hrc
          cases hr
          exact regd_sound cs hmix hc hx hrc r er f fun a' w' ρ' er' r' s' => ⟨rfl, ρ', er'.keep kp, r', s'⟩
        · cases hr
      · cases hr
  | _ =>
    intro x hc
    cases x <;> simp [chkC] at hc

/-! ### results, functions, the table -/
theorem bindA_get : ∀ {args : List AV} {k n : Nat}, eget (bindA k args) n = if k ≤ n ∧ n < k + args.length then args.getD (n - k) .un else .un
  | [], k, n => by simp [bindA, eget]
  | v :: r, k, n => by
    simp only [bindA, eget, List.length_cons]
    by_cases h : k = n
    · subst h
      rw [if_pos rfl, if_pos ⟨Nat.le_refl _, by omega⟩]
      simp
    · rw [if_neg h, bindA_get]
      by_cases h2 : k + 1 ≤ n ∧ n < k + 1 + r.length
      · rw [if_pos h2, if_pos ⟨by omega, by omega⟩]
        obtain ⟨m, rfl⟩ : ∃ m, n = k + 1 + m := ⟨n - (k + 1), by omega⟩
        rw [show k + 1 + m - k = m + 1 by omega, show k + 1 + m - (k + 1) = m by omega]
        simp
      · rw [if_neg h2, if_neg (by omega)]
theorem ER.enter {ρ : Rho} {args : List AV} {xs : Array Value} (hf : F2 (VE lk ρ) args xs.toList) (hn : args.length ≤ nt) :
    ER lk ρ nt (bindA 0 args) { tmps := xs ++ Array.replicate (nt - xs.size) undef, defers := [] } := by
  have hl : args.length = xs.size := by simpa using hf.length
  refine ⟨fun n => ?_, by simp; omega, rfl⟩
  rw [bindA_get]
  by_cases h : n < args.length
  · rw [if_pos ⟨Nat.zero_le _, by omega⟩]
    obtain ⟨y, hy, hv⟩ := hf.get (j := n) (x := args[n]) (List.getElem?_eq_getElem h)
    rw [Array.getElem?_toList] at hy
    have hn' : n < xs.size := by omega
    have : (xs ++ Array.replicate (nt - xs.size) undef).getD n undef = y := by
      rw [Array.getD_eq_getD_getElem?, Array.getElem?_append_left hn', hy]; rfl
    simp only [Nat.sub_zero, List.getD_eq_getElem?_getD, List.getElem?_eq_getElem h, Option.getD_some]
    simp only [this]
    exact hv
  · rw [if_neg (by omega)]
    exact .of (.un _)

theorem tie_sound {ρ : Rho} {vs : List AV} {xs : Array Value} (h : F2 (VE lk ρ) vs xs.toList) {v : AV} (ht : tie vs = some v) : VE lk ρ v (if h : xs.size = 1 then xs[0] else .tuple xs) := by
  have many : vs.any AV.isTup = false → F2 (VO lk ρ) vs xs.toList := by
    generalize xs.toList = ys at h
    clear ht
    intro hn
    induction vs generalizing ys with
    | nil => cases ys with | nil => trivial | cons => exact h.elim
    | cons u us ih =>
      cases ys with
      | nil => exact h.elim
      | cons y ys =>
        simp only [List.any_cons, Bool.or_eq_false_iff] at hn
        refine ⟨?_, ih ys h.2 hn.2⟩
        cases h.1 with
        | of h => exact h
        | tup h => simp [AV.isTup] at hn
  have hl : vs.length = xs.size := by simpa using h.length
  match vs, ht with
  | [u], ht =>
    simp [tie] at ht
    subst ht
    have h1 : xs.size = 1 := by simpa using hl.symm
    rw [dif_pos h1]
    obtain ⟨y, hy, hv⟩ := h.get (j := 0) (x := u) rfl
    rw [Array.getElem?_toList] at hy
    have : xs[0] = y := by
      rw [Array.getElem?_eq_getElem (by omega)] at hy
      exact Option.some.inj hy
    rw [this]
    exact hv
  | [], ht =>
    simp [tie] at ht
    subst ht
    rw [dif_neg (by simp at hl; omega)]
    exact .tup (many rfl)
  | a :: b :: r, ht =>
    simp only [tie] at ht
    split at ht
    · cases ht
    · rename_i hn
      cases ht
      rw [dif_neg (by simp at hl; omega)]
      exact .tup (many (by simpa using hn))

def rvRun (a : Act) : ResultVar → Sem Value
  | .tmp t => pure (a.tmps.getD t undef)
  | .cell b t => do loadVar t (← asAddr (a.tmps.getD b undef))
theorem ress_sound {ρ : Rho} {e : Env} {h : AH} {a : Act} {w : World} (r : Rel lk ρ h w) (er : ER lk ρ nt e a) : ∀ {rs : List ResultVar} {xs : List RV} {vs : List AV}, all2 (chkR P) rs xs = true → aress xs e h = some vs →
    ∃ ys : List Value, (rs.mapM (rvRun a)).run P w = .ok ys w ∧ F2 (VE lk ρ) vs ys
  | [], [], vs, hc, hr => by simp [aress] at hr; subst hr; exact ⟨[], by simp, trivial⟩
  | [], _ :: _, vs, hc, hr => by simp [all2] at hc
  | _ :: _, [], vs, hc, hr => by simp [all2] at hc
  | q :: rs, x :: xs, vs, hc, hr => by
    simp only [all2, Bool.and_eq_true] at hc
    simp only [aress] at hr
    split at hr
    · rename_i v vs' h1 h2
      cases hr
      obtain ⟨ys, h3, h4⟩ := ress_sound r er hc.2 h2
      have hone : ∃ y, (rvRun a q).run P w = .ok y w ∧ VE lk ρ v y := by
        have hq := hc.1
        cases q with
        | tmp t =>
          cases x with
          | t n =>
            simp only [chkR, beq_iff_eq] at hq
            subst hq
            simp only [ares, Option.some.injEq] at h1
            subst h1
            exact ⟨_, by simp [rvRun], er.get _⟩
          | cell n sz => cases hq
        | cell b ty =>
          cases x with
          | t n => cases hq
          | cell n sz =>
            simp only [chkR, Bool.and_eq_true, beq_iff_eq] at hq
            obtain ⟨rfl, hq⟩ := hq
            simp only [ares, Option.map_eq_some_iff] at h1
            obtain ⟨⟨v', h''⟩, h5, rfl⟩ := h1
            obtain ⟨y, h6, h7, _⟩ := aload_sound (P := P) r hq (er.get b) h5
            obtain ⟨id, off, hptr⟩ : ∃ id off, eget e b = .ptr id off := by
              unfold aload at h5
              split at h5
              · exact ⟨_, _, by assumption⟩
              · exact ⟨_, _, by assumption⟩
              · cases h5
            have hv := er.get b
            rw [hptr] at hv
            obtain ⟨bb, tt, _, hx⟩ := hv.ptr
            refine ⟨y, ?_, h7⟩
            simp only [rvRun, hx] at h6 ⊢
            simpa [Instr.loadAt, Instr.sureAddr, asAddr] using h6
      obtain ⟨y, h5, h6⟩ := hone
      refine ⟨y :: ys, ?_, h6, h4⟩
      rw [List.mapM_cons]
      simp only [Sem.run_bind, h5, Result.andThen_ok, h3]
      simp
    · cases hr

theorem exF_sound (cs : CSound P lk C) (hmix : P.follows .mixedOrders = true) {n f : Nat} {F : AFun} (hc : chkF P lk f F = true) {args : List AV} {h h' : AH} {v : AV} (hr : exF C n F args h = some (v, h')) : CallsOk P lk f args h v h' := by
  unfold chkF at hc
  split at hc
  · rename_i g hg
    split at hc
    · rename_i fn hfn
      simp only [chkFn, Bool.and_eq_true, Bool.not_eq_true', beq_eq_false_iff_ne, ne_eq, Nat.ble_eq] at hc
      obtain ⟨⟨⟨hname, hnp⟩, hres⟩, hbody⟩ := hc
      split at hbody
      · rename_i c hcode
        refine ⟨g, fn, hg, hfn, hname, by simp [hcode], fun ρ w xs r hf free => ?_⟩
        unfold exF at hr
        split at hr
        · rename_i hlen
          refine calls_of_wp hfn hcode ?_
          have er := ER.enter (nt := fn.ntmps) hf (by omega)
          have fin : ∀ {t e1 h1 vs}, (t = .nrm ∨ t = .ret) → exC C n F.body (bindA 0 args) h = some (t, e1, h1) → aress F.res e1 h1 = some vs → (tie vs).map (fun v => (v, h1)) = some (v, h') →
              c.wp P (bodyPost P fn fun e w' => ∃ x ρ', e = .returned x ∧ VE lk ρ' v x ∧ Rel lk ρ' h' w' ∧ Stp ρ h w ρ' h' w') { tmps := xs ++ Array.replicate (fn.ntmps - xs.size) undef, defers := [] } w := by
            intro t e1 h1 vs ht hx hv htie
            simp only [Option.map_eq_some_iff, Prod.mk.injEq] at htie
            obtain ⟨v', htie, rfl, rfl⟩ := htie
            refine wp_mono (exC_sound cs hmix c hbody hx r er free) ?_
            rintro X a1 w1 ⟨rfl, ρ1, er1, r1, s1⟩
            obtain ⟨ys, h3, h4⟩ := ress_sound (P := P) r1 er1 hres hv
            have hrun : (results fn a1.tmps).run P w1 = .ok (if h : ys.toArray.size = 1 then ys.toArray[0] else .tuple ys.toArray) w1 := by
              have he : results fn a1.tmps = (do let vs ← fn.results.mapM (rvRun a1); pure (if h : vs.size = 1 then vs[0] else .tuple vs)) := rfl
              rw [he, Array.mapM_eq_mapM_toList]
              simp only [Sem.run_bind, Sem.run_map, h3, Result.andThen_ok]
              simp
            have hb : a1.defers = [] ∧ ∃ u, (results fn a1.tmps).run P w1 = .ok u w1 ∧ ∃ x ρ', Ending.returned u = .returned x ∧ VE lk ρ' v' x ∧ Rel lk ρ' h1 w1 ∧ Stp ρ h w ρ' h1 w1 :=
              ⟨er1.defers, _, hrun, _, ρ1, rfl, tie_sound (by simpa using h4) htie, r1, s1⟩
            rcases ht with rfl | rfl <;> exact hb
          split at hr
          · rename_i e1 h1 hx
            split at hr
            · rename_i vs hv; exact fin (.inl rfl) hx hv hr
            · cases hr
          · rename_i e1 h1 hx
            split at hr
            · rename_i vs hv; exact fin (.inr rfl) hx hv hr
            · cases hr
          · cases hr
        · cases hr
      · cases hbody
    · cases hc
  · cases hc
theorem exF_nx (cs : CSound P lk C) {n : Nat} {F : AFun} {args : List AV} {h h' : AH} {v : AV} (hr : exF C n F args h = some (v, h')) : h.next ≤ h'.next := by
  unfold exF at hr
  split at hr
  · split at hr
    · rename_i hx
      split at hr
      · simp only [Option.map_eq_some_iff, Prod.mk.injEq] at hr
        obtain ⟨_, _, _, rfl⟩ := hr
        exact exC_nx cs hx
      · cases hr
    · rename_i hx
      split at hr
      · simp only [Option.map_eq_some_iff, Prod.mk.injEq] at hr
        obtain ⟨_, _, _, rfl⟩ := hr
        exact exC_nx cs hx
      · cases hr
    · cases hr
  · cases hr

/-- a table that the program has -/
def TOk (P : Program) (lk : Lk) (T : AT) : Prop := ∀ f, match T f with
  | some (.fn F) => chkF P lk f F = true
  | some (.spec g) => ∀ args v, g args = some v → ∀ h, CallsOk P lk f args h v h
  | none => True
theorem exN_sound {T : AT} (hT : TOk P lk T) (hmix : P.follows .mixedOrders = true) : ∀ n, CSound P lk (exN T n)
  | 0 => ⟨fun h => by simp [exN] at h, fun h => by simp [exN] at h⟩
  | n + 1 => by
    have cs := exN_sound hT hmix n
    refine ⟨fun {f args h v h'} hr => ?_, fun {f args h v h'} hr => ?_⟩
    · have ht := hT f
      simp only [exN] at hr
      split at hr
      · rename_i F hF
        rw [hF] at ht
        exact exF_sound cs hmix ht hr
      · rename_i g hg
        rw [hg] at ht
        simp only [Option.map_eq_some_iff, Prod.mk.injEq] at hr
        obtain ⟨v', h1, rfl, rfl⟩ := hr
        exact ht args v' h1 h
      · cases hr
    · simp only [exN] at hr
      split at hr
      · exact exF_nx cs hr
      · simp only [Option.map_eq_some_iff, Prod.mk.injEq] at hr
        obtain ⟨v', h1, rfl, rfl⟩ := hr
        exact Nat.le_refl _
      · cases hr
end
end Go.Proofs.Ytpgoemmjhnnmoaa.Ab
