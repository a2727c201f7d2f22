/- The second machine: calls that leave the memory as it is. -/
import Derived.Test.YtjijhkmimjolhaaMS2
namespace Go.Proofs.Ytjijhkmimjolhaa.Ab
open Go
set_option linter.unusedVariables false
/-! ### functions that leave the memory as it is -/
def AO.still (x : AO) : Bool := match x.kind with | .pure => true | .reader => true | _ => false
def AO.callee (qs : Nat → Bool) (x : AO) : Bool := match x with | .call f _ => qs f | _ => false
def AOp.calm (qs : Nat → Bool) (o : AOp) : Bool := o.o.still || o.o.callee qs
def AC.calm (qs : Nat → Bool) : AC → Bool
  | .skip | .ret | .exit _ => true
  | .seq a b => a.calm qs && b.calm qs
  | .cond _ a b => a.calm qs && b.calm qs
  | .block _ b => b.calm qs
  | .loop b => b.calm qs
  | .reg ops _ => ops.all (AOp.calm qs)
  | .regd ops _ _ => ops.all (AOp.calm qs)
section
variable {qs : Nat → Bool} {C : CallF}
theorem stepOp_calm (hC : ∀ f args h v h', qs f = true → C f args h = some (v, h') → h' = h) {o : AOp} {e : Env} {h h' : AH} {v : AV} (ho : o.calm qs = true) (hr : stepOp C o e h = some (v, h')) : h' = h := by
  unfold stepOp at hr
  split at hr
  · rcases Bool.or_eq_true_iff.1 ho with hs | hs
    · unfold AO.still at hs
      split at hs
      · rename_i hk; rw [exOp_aop (by rw [hk]; simp)] at hr; exact (pure_any hk hr).1
      · rename_i hk; rw [exOp_aop (by rw [hk]; simp)] at hr; exact reader_same hk hr
      · cases hs
    · unfold AO.callee at hs
      split at hs
      · rename_i f args hx
        rw [hx] at hr
        exact hC f _ h v h' hs hr
      · cases hs
  · cases hr; rfl
  · cases hr
theorem exOps_calm (hC : ∀ f args h v h', qs f = true → C f args h = some (v, h') → h' = h) : ∀ {l : List AOp} {e e' : Env} {h h' : AH}, l.all (AOp.calm qs) = true → exOps C l e h = some (e', h') → h' = h
  | [], e, e', h, h', _, hr => by cases hr; rfl
  | o :: l, e, e', h, h', ho, hr => by
    simp only [List.all_cons, Bool.and_eq_true] at ho
    obtain ⟨v, h1, hs, hr2⟩ := exOps_cons hr
    have e1 := stepOp_calm hC ho.1 hs
    subst e1
    exact exOps_calm hC ho.2 hr2
theorem exTr_calm (hC : ∀ f args h v h', qs f = true → C f args h = some (v, h') → h' = h) : ∀ {l : List AOp} {e e' : Env} {h h' : AH} {tr : List (Env × AH × AV)}, l.all (AOp.calm qs) = true → exTr C l e h = some (tr, e', h') → h' = h
  | [], e, e', h, h', tr, _, hr => by cases hr; rfl
  | o :: l, e, e', h, h', tr, ho, hr => by
    simp only [List.all_cons, Bool.and_eq_true] at ho
    simp only [exTr] at hr
    split at hr
    · rename_i hs
      split at hr
      · rename_i ht
        cases hr
        have e1 := stepOp_calm hC ho.1 hs
        subst e1
        exact exTr_calm hC ho.2 ht
      · cases hr
    · cases hr
theorem exC_calm (hC : ∀ f args h v h', qs f = true → C f args h = some (v, h') → h' = h) (n : Nat) : ∀ {c : AC} {e e' : Env} {h h' : AH} {t : XT}, c.calm qs = true → exC C n c e h = some (t, e', h') → h' = h
  | .skip, _, _, _, _, _, _, hr => by cases hr; rfl
  | .ret, _, _, _, _, _, _, hr => by cases hr; rfl
  | .exit _, _, _, _, _, _, _, hr => by cases hr; rfl
  | .seq a b, e, e', h, h', t, hc, hr => by
    simp only [AC.calm, Bool.and_eq_true] at hc
    simp only [exC] at hr
    split at hr
    · rename_i h1
      have e1 := exC_calm hC n hc.1 h1
      subst e1
      exact exC_calm hC n hc.2 hr
    · rename_i h1; cases hr; exact exC_calm hC n hc.1 h1
    · rename_i h1; cases hr; exact exC_calm hC n hc.1 h1
    · cases hr
  | .cond x a b, e, e', h, h', t, hc, hr => by
    simp only [AC.calm, Bool.and_eq_true] at hc
    simp only [exC] at hr
    split at hr
    · exact exC_calm hC n hc.1 hr
    · exact exC_calm hC n hc.2 hr
    · cases hr
  | .block i b, e, e', h, h', t, hc, hr => by
    simp only [AC.calm] at hc
    simp only [exC] at hr
    split at hr
    · rename_i h1
      have e1 := exC_calm hC n hc h1
      split at hr <;> cases hr <;> exact e1
    · rename_i h1
      cases hr; exact exC_calm hC n hc h1
    · rename_i h1
      cases hr; exact exC_calm hC n hc h1
    · cases hr
  | .loop b, e, e', h, h', t, hc, hr => by
    simp only [AC.calm] at hc
    simp only [exC] at hr
    have key : ∀ (k : Nat) {e e' : Env} {h h' : AH} {t : XT}, exL (exC C n b) k e h = some (t, e', h') → h' = h := fun k => by
      induction k with
      | zero => intro e e' h h' t hr; cases hr
      | succ k ih =>
        intro e e' h h' t hr
        simp only [exL] at hr
        split at hr
        · rename_i h1
          have e1 := exC_calm hC n hc h1
          subst e1
          exact ih hr
        · rename_i h1
          cases hr; exact exC_calm hC n hc h1
        · rename_i h1
          cases hr; exact exC_calm hC n hc h1
        · cases hr
    exact key n hr
  | .reg ops kp, e, e', h, h', t, hc, hr => by
    simp only [AC.calm] at hc
    simp only [exC] at hr
    split at hr
    · rename_i h1; cases hr; exact exOps_calm hC hc h1
    · cases hr
  | .regd ops rc kp, e, e', h, h', t, hc, hr => by
    simp only [AC.calm] at hc
    simp only [exC] at hr
    split at hr
    · rename_i h1
      split at hr
      · cases hr; exact exTr_calm hC hc h1
      · cases hr
    · cases hr
end
/-- functions that leave the memory as it is, all of them -/
def Calm (T : AT) (qs : Nat → Bool) : Prop := ∀ f, qs f = true → ∃ F, T f = some (.fn F) ∧ F.body.calm qs = true
theorem exN_calm {T : AT} {qs : Nat → Bool} (hq : Calm T qs) : ∀ (n f : Nat) args h v h', qs f = true → exN T n f args h = some (v, h') → h' = h
  | 0, f, args, h, v, h', _, hr => by cases hr
  | n + 1, f, args, h, v, h', hf, hr => by
    obtain ⟨F, hF, hc⟩ := hq f hf
    simp only [exN, hF, exF] at hr
    split at hr
    · split at hr
      · rename_i h1
        have e1 := exC_calm (exN_calm hq n) n hc h1
        split at hr
        · obtain ⟨x, _, hx⟩ := Option.map_eq_some_iff.1 hr
          cases hx; exact e1
        · cases hr
      · rename_i h1
        have e1 := exC_calm (exN_calm hq n) n hc h1
        split at hr
        · obtain ⟨x, _, hx⟩ := Option.map_eq_some_iff.1 hr
          cases hx; exact e1
        · cases hr
      · cases hr
    · cases hr
section
variable {T : AT} {k : Nat} {S : List Nat} {K : SE → SH → Prop} {e0 e : SE} {h0 h : SH}
/-- a call that leaves the memory as it is, and reaches blocks that are looked at -/
theorem EH_callQ {k' : Nat} {d : Option Nat} {g : Nat} {args : List SV} {rest : List AOp} {args0 : List SV} {hv : SH} {R : SV → SH → Prop} {b : Bool} {fl : List Bool} {qs : Nat → Bool} (hq : Calm T qs) (hg : qs g = true) (σ : List Nat) (spec : Ret2 T k' g args0 hv R) (hn : σ.Nodup) (hσ : ∀ x ∈ σ, x < h.length) (hp : pinsOk k k' σ = true)
    (hi : S.all (fun s => match idx σ s with | none => true | some i => decide (i < k')) = true)
    (ha : SV.cvs (idx σ) args = args0) (hh : view σ h = hv) (hk : ∀ v h', R v h' → S.all (okS (back σ k' h h')) = true ∧ WOH T k S (b :: fl) rest (epu e0 d .un) h0 (epu (e.cv (kills (σ.drop k'))) d (v.cv (gback σ h.length))) (back σ k' h h') K) :
    EndH T k S h0 K (.stop e0 e h ⟨d, g, args, rest⟩ (b :: fl)) := by
  subst ha
  subst hh
  intro w0 ch0 w ce ch cargs r he iv hargs
  obtain ⟨n, cv, ch1, w1, v, h1, b1, b2, b3, b4, b5⟩ := spec.run (w.vw σ h.length) cargs ch (r.view hn) (hargs.cv view_cv)
  obtain ⟨c1, c2, c3, c4⟩ := r.back hn b3 b5 hp hσ
  obtain ⟨hk1, hk2⟩ := hk v h1 b2
  have hch : ch1 = ch := exN_calm hq n g cargs ch cv ch1 hg b1
  refine ⟨n, cv, ch1, _, _, _, b1, c1, (he.cv c3).put (b4.cv c2) d, c4, iv.step r c4 fun s hs c hc => ?_, hk2⟩
  have his := List.all_eq_true.1 hi s hs
  have hok := List.all_eq_true.1 hk1 s hs
  obtain ⟨_, b0, hb0⟩ := iv.liv s hs
  refine ⟨by rw [hch], ?_, ?_⟩
  · cases hx : idx σ s with
    | none => simp only [Wd.bk, hx]; rw [if_pos (live_lt hb0)]; exact hc
    | some i =>
      simp only [hx, decide_eq_true_eq] at his
      have hsi := idx_get hx
      have hil : i < (Ab.view σ h).length := by rw [view, List.length_map]; exact (List.getElem?_eq_some_iff.1 hsi).1
      obtain ⟨p1, p2⟩ := b5.pin i his hil
      simp only [Wd.bk, hx]
      rw [if_pos (live_lt hb0), if_pos p1, p2, vw_ρ hsi (live_lt hb0)]
      exact hc
  · unfold okS at hok
    split at hok
    all_goals first | (rename_i hb; exact ⟨_, bAt_eq hb⟩) | cases hok
/-- numbers and truths are known on both sides -/
theorem WOH_i {fl : List Bool} {l : List AOp} (d : Nat) {kk : IntKind} {n : Int} (he : eg e d = .p (.i kk n)) (hw : WOH T k S fl l ((d, .p (.i kk n)) :: e0) h0 e h K) : WOH T k S fl l e0 h0 e h K :=
  ⟨fun w0 ch0 w ce ch g1 g2 h1 h2 h3 => hw.run w0 ch0 w ce ch g1 (fun s => by
    simp only [eg]
    split
    · rename_i hs
      subst hs
      have := h2 d
      rw [he] at this
      cases this with | p this =>
      generalize eget ce d = z at this
      cases this; exact .p (.i _ _)
    · exact g2 s) h1 h2 h3⟩
theorem WOH_b {fl : List Bool} {l : List AOp} (d : Nat) {b : Bool} (he : eg e d = .p (.b b)) (hw : WOH T k S fl l ((d, .p (.b b)) :: e0) h0 e h K) : WOH T k S fl l e0 h0 e h K :=
  ⟨fun w0 ch0 w ce ch g1 g2 h1 h2 h3 => hw.run w0 ch0 w ce ch g1 (fun s => by
    simp only [eg]
    split
    · rename_i hs
      subst hs
      have := h2 d
      rw [he] at this
      cases this with | p this =>
      generalize eget ce d = z at this
      cases this; exact .p (.b _)
    · exact g2 s) h1 h2 h3⟩
end
end Go.Proofs.Ytjijhkmimjolhaa.Ab
