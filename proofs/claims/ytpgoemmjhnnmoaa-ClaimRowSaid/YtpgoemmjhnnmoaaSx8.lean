/- The second machine: a logic. -/
import Derived.Test.YtpgoemmjhnnmoaaSx7
namespace Go.Proofs.Ytpgoemmjhnnmoaa.Ab
open Go
set_option linter.unusedVariables false
/-- a call: from any memory that is as told it comes to a value and a memory as told; the rest stays -/
structure Ret2 (T : AT) (k f : Nat) (args : List SV) (h : SH) (R : SV → SH → Prop) : Prop where
  run : ∀ w cargs ch, RH w h ch → P2 (RS w h.length) args cargs → ∃ n cv ch' w' v h', exN T n f cargs ch = some (cv, ch') ∧ R v h' ∧ RH w' h' ch' ∧ RS w' h'.length v cv ∧ Fr k w h ch w' h' ch'
structure W2 (T : AT) (k : Nat) (c : AC) (e : SE) (h : SH) (Q : XT → SE → SH → Prop) : Prop where
  run : ∀ w ce ch, RH w h ch → RE w h.length e ce → ∃ n t ce' ch' w' e' h', exC (exN T n) n c ce ch = some (t, ce', ch') ∧ Q t e' h' ∧ RH w' h' ch' ∧ RE w' h'.length e' ce' ∧ Fr k w h ch w' h' ch'
structure WO2 (T : AT) (k : Nat) (ops : List AOp) (e : SE) (h : SH) (K : SE → SH → Prop) : Prop where
  run : ∀ w ce ch, RH w h ch → RE w h.length e ce → ∃ n ce' ch' w' e' h', exOps (exN T n) ops ce ch = some (ce', ch') ∧ K e' h' ∧ RH w' h' ch' ∧ RE w' h'.length e' ce' ∧ Fr k w h ch w' h' ch'
def guarded2 (e : SE) : Option (Nat × Bool) → Option Bool
  | none => some true
  | some (s, w) =>
    match eg e s with
    | .p (.b x) => some (x == w)
    | .tup [] => some false
    | _ => none
theorem guarded2_ok {w : Wd} {n : Nat} {e : SE} {ce : Env} (he : RE w n e ce) {g : Option (Nat × Bool)} {b : Bool} (hg : guarded2 e g = some b) : guarded ce g = some b := by
  cases g with
  | none => exact hg
  | some q =>
    obtain ⟨s, x⟩ := q
    have h := he s
    simp only [guarded2, guarded] at hg ⊢
    split at hg
    · rename_i e1
      rw [e1] at h
      cases h with | p h =>
      generalize eget ce s = z at h
      cases h with | b => exact hg
    · rename_i e1
      rw [e1] at h
      generalize eget ce s = z at h
      cases h with
      | tup h1 h2 =>
        rename_i ccs
        have : ccs = [] := List.length_eq_zero_iff.1 h1.symm
        subst this
        exact hg
    · cases hg
inductive Nx2 where
  | go | call (f : Nat) (args : List SV) | bad
def nxt2 (o : AO) (e : SE) : Nx2 :=
  match o with
  | .call f args => .call f (args.map (evs e))
  | .callv x args =>
    match evs e x with
    | .fn g first cap => .call g (first ++ args.map (evs e) ++ cap)
    | _ => .bad
  | _ => .go
structure Stop2 where
  d : Option Nat
  f : Nat
  args : List SV
  rest : List AOp
def run2 : List AOp → SE → SH → Option (SE × SH × Option Stop2)
  | [], e, h => some (e, h, none)
  | ⟨d, g, o⟩ :: r, e, h =>
    match guarded2 e g with
    | some true =>
      match nxt2 o e with
      | .call f args => some (e, h, some ⟨d, f, args, r⟩)
      | .go =>
        match aop2 o e h with
        | some (v, h') => run2 r (epu e d v) h'
        | none => none
      | .bad => none
    | some false => run2 r (epu e d (.tup [])) h
    | none => none
theorem nxt2_go {C : CallF} {o : AO} {e : SE} {ce : Env} {ch : AH} (hc : nxt2 o e = .go) : exOp C o ce ch = aop o ce ch := by
  cases o with
  | call => simp [nxt2] at hc
  | callv => simp only [nxt2] at hc; split at hc <;> simp at hc
  | _ => rfl
theorem nxt2_call {w : Wd} {n : Nat} {o : AO} {e : SE} {ce : Env} (he : RE w n e ce) {f : Nat} {args : List SV} (hc : nxt2 o e = .call f args) : ∃ cargs, (∀ C ch, exOp C o ce ch = C f cargs ch) ∧ P2 (RS w n) args cargs := by
  unfold nxt2 at hc
  split at hc
  · cases hc; exact ⟨_, fun _ _ => rfl, evs_map he _⟩
  · rename_i x args'
    have hx := evs_rs he x
    split at hc
    · rename_i e1
      cases hc
      rw [e1] at hx
      generalize hz : ev ce x = z at hx
      cases hx with
      | fn h1 h2 h3 h4 =>
        refine ⟨_, fun C ch => by simp only [exOp, hz]; rfl, ?_⟩
        refine P2.append (P2.append (P2.map_right ⟨h1, h2⟩) (evs_map he args')) (P2.map_right ⟨h3, h4⟩)
    · cases hc
  · cases hc
section
variable {T : AT} {k : Nat} {Q : XT → SE → SH → Prop} {K : SE → SH → Prop} {e : SE} {h : SH}
theorem Ret2.mono {f : Nat} {args : List SV} {R R' : SV → SH → Prop} (r : Ret2 T k f args h R) (hr : ∀ v h', R v h' → R' v h') : Ret2 T k f args h R' :=
  ⟨fun w ca ch h1 h2 => by obtain ⟨n, cv, ch', w', v, h', a1, a2, a3⟩ := r.run w ca ch h1 h2; exact ⟨n, cv, ch', w', v, h', a1, hr _ _ a2, a3⟩⟩
theorem W2.mono {c : AC} {Q' : XT → SE → SH → Prop} (r : W2 T k c e h Q) (hr : ∀ t e h, Q t e h → Q' t e h) : W2 T k c e h Q' :=
  ⟨fun w ca ch h1 h2 => by obtain ⟨n, t, ce', ch', w', e', h', a1, a2, a3⟩ := r.run w ca ch h1 h2; exact ⟨n, t, ce', ch', w', e', h', a1, hr _ _ _ a2, a3⟩⟩
theorem WO2.mono {l : List AOp} {K' : SE → SH → Prop} (r : WO2 T k l e h K) (hr : ∀ e h, K e h → K' e h) : WO2 T k l e h K' :=
  ⟨fun w ca ch h1 h2 => by obtain ⟨n, ce', ch', w', e', h', a1, a2, a3⟩ := r.run w ca ch h1 h2; exact ⟨n, ce', ch', w', e', h', a1, hr _ _ a2, a3⟩⟩
theorem WO2_nil (hk : K e h) : WO2 T k [] e h K := ⟨fun w ce ch h1 h2 => ⟨0, ce, ch, w, e, h, rfl, hk, h1, h2, .refl _ _ _ _⟩⟩
/-- what comes behind an operation, or a call, that is sound -/
theorem WO2_step {o : AOp} {l : List AOp} (hs : ∀ w ce ch, RH w h ch → RE w h.length e ce → ∃ n cv ch' w' e' h', stepOp (exN T n) o ce ch = some (cv, ch') ∧ RH w' h' ch' ∧ RE w' h'.length e' (eput ce o.d cv) ∧ Fr k w h ch w' h' ch' ∧ WO2 T k l e' h' K) : WO2 T k (o :: l) e h K := by
  refine ⟨fun w ce ch h1 h2 => ?_⟩
  obtain ⟨n, cv, ch1, w1, e1, h1', a1, a2, a3, a4, a5⟩ := hs w ce ch h1 h2
  obtain ⟨m, ce2, ch2, w2, e2, h2', b1, b2, b3, b4, b5⟩ := a5.run w1 _ ch1 a2 a3
  refine ⟨max n m, ce2, ch2, w2, e2, h2', ?_, b2, b3, b4, a4.trans b5⟩
  simp only [exOps, stepOp_le (exN_le (Nat.le_max_left n m)) a1]
  exact exOps_le (exN_le (Nat.le_max_right n m)) b1
theorem WO2_op {d : Option Nat} {g : Option (Nat × Bool)} {o : AO} {l : List AOp} {v : SV} {h' : SH} (hg : guarded2 e g = some true) (hn : nxt2 o e = .go) (ho : aop2 o e h = some (v, h')) (hk : WO2 T k l (epu e d v) h' K) : WO2 T k (⟨d, g, o⟩ :: l) e h K := by
  refine WO2_step fun w ce ch h1 h2 => ?_
  obtain ⟨cv, ch', w', a1, a2, a3, a4, a5, a6⟩ := aop2_sound (k := k) h1 h2 ho
  refine ⟨0, cv, ch', w', _, h', ?_, a2, (h2.mono a4 a5).put a3 d, a6, hk⟩
  simp only [stepOp, guarded2_ok h2 hg, nxt2_go hn]
  exact a1
theorem WO2_skip {d : Option Nat} {g : Option (Nat × Bool)} {o : AO} {l : List AOp} (hg : guarded2 e g = some false) (hk : WO2 T k l (epu e d (.tup [])) h K) : WO2 T k (⟨d, g, o⟩ :: l) e h K := by
  refine WO2_step fun w ce ch h1 h2 => ⟨0, .tup [], ch, w, _, h, ?_, h1, h2.put rs_unit d, .refl _ _ _ _, hk⟩
  simp only [stepOp, guarded2_ok h2 hg]
/-- what is wanted where a run stops at a call -/
def CK (T : AT) (k : Nat) (K : SE → SH → Prop) (e : SE) (h : SH) : Option Stop2 → Prop
  | none => K e h
  | some s => ∀ w ce ch cargs, RH w h ch → RE w h.length e ce → P2 (RS w h.length) s.args cargs → ∃ n cv ch' w' e' h', exN T n s.f cargs ch = some (cv, ch') ∧ RH w' h' ch' ∧ RE w' h'.length e' (eput ce s.d cv) ∧ Fr k w h ch w' h' ch' ∧ WO2 T k s.rest e' h' K
theorem run2_sound : ∀ {l : List AOp} {e e' : SE} {h h' : SH} {s : Option Stop2}, run2 l e h = some (e', h', s) → CK T k K e' h' s → WO2 T k l e h K
  | [], e, e', h, h', s, hr, hk => by cases hr; exact WO2_nil hk
  | ⟨d, g, o⟩ :: l, e, e', h, h', s, hr, hk => by
    simp only [run2] at hr
    split at hr
    · rename_i hg
      split at hr
      · rename_i hc
        cases hr
        refine WO2_step fun w ce ch h1 h2 => ?_
        obtain ⟨cargs, q1, q2⟩ := nxt2_call h2 hc
        obtain ⟨n, cv, ch', w', e', h', a1, a2, a3, a4, a5⟩ := hk w ce ch cargs h1 h2 q2
        refine ⟨n, cv, ch', w', e', h', ?_, a2, a3, a4, a5⟩
        simp only [stepOp, guarded2_ok h2 hg, q1]
        exact a1
      · rename_i hc
        split at hr
        · rename_i ha
          exact WO2_op hg hc ha (run2_sound hr hk)
        · cases hr
      · cases hr
    · rename_i hg; exact WO2_skip hg (run2_sound hr hk)
    · cases hr
def runK2 (ops : List AOp) (kp : List Nat) (e : SE) (h : SH) : Option (SE × SH) :=
  match run2 ops e h with
  | some (e', h', none) => some (kp.map fun s => (s, eg e' s), h')
  | _ => none
theorem keep2 {w : Wd} {n : Nat} {e : SE} {ce : Env} (he : RE w n e ce) : ∀ (kp : List Nat), RE w n (kp.map fun s => (s, eg e s)) (keepE kp ce)
  | [], s => .un
  | a :: kp, s => by
    simp only [keepE, List.map_cons, eg, eget]
    split
    · exact he a
    · exact keep2 he kp s
theorem W2_reg {ops : List AOp} {kp : List Nat} (ho : WO2 T k ops e h fun e' h' => Q .nrm (kp.map fun s => (s, eg e' s)) h') : W2 T k (.reg ops kp) e h Q := by
  refine ⟨fun w ce ch h1 h2 => ?_⟩
  obtain ⟨n, ce1, ch1, w1, e1, h1', a1, a2, a3, a4, a5⟩ := ho.run w ce ch h1 h2
  exact ⟨n, .nrm, _, ch1, w1, _, h1', by simp only [exC, a1], a2, a3, keep2 a4 kp, a5⟩
theorem exOps_tr {C : CallF} : ∀ {l : List AOp} {e : Env} {h : AH} {e' : Env} {h' : AH}, exOps C l e h = some (e', h') → ∃ tr, exTr C l e h = some (tr, e', h')
  | [], e, h, e', h', hr => by simp [exOps] at hr; exact ⟨[], by simp [exTr, hr]⟩
  | o :: l, e, h, e', h', hr => by
    simp only [exOps] at hr
    split at hr
    · rename_i hs
      obtain ⟨tr, ht⟩ := exOps_tr hr
      exact ⟨(_, _, _) :: tr, by simp only [exTr, hs, ht]; rfl⟩
    · cases hr
theorem W2_regd {ops : List AOp} {kp : List Nat} (ho : WO2 T k ops e h fun e' h' => Q .nrm (kp.map fun s => (s, eg e' s)) h') : W2 T k (.regd ops [] kp) e h Q := by
  refine ⟨fun w ce ch h1 h2 => ?_⟩
  obtain ⟨n, ce1, ch1, w1, e1, h1', a1, a2, a3, a4, a5⟩ := ho.run w ce ch h1 h2
  obtain ⟨tr, ht⟩ := exOps_tr a1
  exact ⟨n, .nrm, _, ch1, w1, _, h1', by simp only [exC, ht, rcOk, List.all_nil, if_true], a2, a3, keep2 a4 kp, a5⟩
theorem W2_skip (hq : Q .nrm e h) : W2 T k .skip e h Q := ⟨fun w ce ch h1 h2 => ⟨0, _, _, _, _, _, _, rfl, hq, h1, h2, .refl _ _ _ _⟩⟩
theorem W2_ret (hq : Q .ret e h) : W2 T k .ret e h Q := ⟨fun w ce ch h1 h2 => ⟨0, _, _, _, _, _, _, rfl, hq, h1, h2, .refl _ _ _ _⟩⟩
theorem W2_exit {i : Nat} (hq : Q (.ex i) e h) : W2 T k (.exit i) e h Q := ⟨fun w ce ch h1 h2 => ⟨0, _, _, _, _, _, _, rfl, hq, h1, h2, .refl _ _ _ _⟩⟩
def thn2 (K : SE → SH → Prop) (Q : XT → SE → SH → Prop) : XT → SE → SH → Prop
  | .nrm, e, h => K e h
  | .ret, e, h => Q .ret e h
  | .ex i, e, h => Q (.ex i) e h
def blk2 (i : Nat) (Q : XT → SE → SH → Prop) : XT → SE → SH → Prop
  | .ex j, e, h => if j = i then Q .nrm e h else Q (.ex j) e h
  | .nrm, e, h => Q .nrm e h
  | .ret, e, h => Q .ret e h
theorem W2_seq {a b : AC} (ha : W2 T k a e h (thn2 (fun e h => W2 T k b e h Q) Q)) : W2 T k (.seq a b) e h Q := by
  refine ⟨fun w ce ch h1 h2 => ?_⟩
  obtain ⟨n, t, ce1, ch1, w1, e1, h1', a1, a2, a3, a4, a5⟩ := ha.run w ce ch h1 h2
  cases t with
  | nrm =>
    obtain ⟨m, t', ce2, ch2, w2, e2, h2', b1, b2, b3, b4, b5⟩ := W2.run a2 w1 ce1 ch1 a3 a4
    refine ⟨max n m, t', ce2, ch2, w2, e2, h2', ?_, b2, b3, b4, a5.trans b5⟩
    simp only [exC, exC_le (exN_le (Nat.le_max_left n m)) (Nat.le_max_left n m) a1]
    exact exC_le (exN_le (Nat.le_max_right n m)) (Nat.le_max_right n m) b1
  | ret => exact ⟨n, _, ce1, ch1, w1, e1, h1', by simp only [exC, a1], a2, a3, a4, a5⟩
  | ex i => exact ⟨n, _, ce1, ch1, w1, e1, h1', by simp only [exC, a1], a2, a3, a4, a5⟩
theorem W2_true {c : AX} {a b : AC} (hc : evs e c = .b true) (ha : W2 T k a e h Q) : W2 T k (.cond c a b) e h Q := by
  refine ⟨fun w ce ch h1 h2 => ?_⟩
  have hv := evs_rs h2 c
  rw [hc] at hv
  generalize hz : ev ce c = z at hv
  cases hv with | p hv => cases hv with | b =>
  obtain ⟨n, t, ce1, ch1, w1, e1, h1', a1, a2⟩ := ha.run w ce ch h1 h2
  exact ⟨n, t, ce1, ch1, w1, e1, h1', by simp only [exC, hz]; exact a1, a2⟩
theorem W2_false {c : AX} {a b : AC} (hc : evs e c = .b false) (ha : W2 T k b e h Q) : W2 T k (.cond c a b) e h Q := by
  refine ⟨fun w ce ch h1 h2 => ?_⟩
  have hv := evs_rs h2 c
  rw [hc] at hv
  generalize hz : ev ce c = z at hv
  cases hv with | p hv => cases hv with | b =>
  obtain ⟨n, t, ce1, ch1, w1, e1, h1', a1, a2⟩ := ha.run w ce ch h1 h2
  exact ⟨n, t, ce1, ch1, w1, e1, h1', by simp only [exC, hz]; exact a1, a2⟩
theorem W2_cond {c : AX} {a b : AC} {x : Bool} (hc : evs e c = .b x) (ha : x = true → W2 T k a e h Q) (hb : x = false → W2 T k b e h Q) : W2 T k (.cond c a b) e h Q := by
  cases x
  · exact W2_false hc (hb rfl)
  · exact W2_true hc (ha rfl)
theorem W2_block {i : Nat} {b : AC} (hb : W2 T k b e h (blk2 i Q)) : W2 T k (.block i b) e h Q := by
  refine ⟨fun w ce ch h1 h2 => ?_⟩
  obtain ⟨n, t, ce1, ch1, w1, e1, h1', a1, a2, a3, a4, a5⟩ := hb.run w ce ch h1 h2
  cases t with
  | nrm => exact ⟨n, _, ce1, ch1, w1, e1, h1', by simp only [exC, a1], a2, a3, a4, a5⟩
  | ret => exact ⟨n, _, ce1, ch1, w1, e1, h1', by simp only [exC, a1], a2, a3, a4, a5⟩
  | ex j =>
    simp only [blk2] at a2
    split at a2
    · rename_i hj; exact ⟨n, _, ce1, ch1, w1, e1, h1', by simp only [exC, a1, hj, if_true], a2, a3, a4, a5⟩
    · rename_i hj; exact ⟨n, _, ce1, ch1, w1, e1, h1', by simp only [exC, a1, hj, if_false], a2, a3, a4, a5⟩
/-- a loop, by a number that falls -/
theorem W2_loop {b : AC} (I : Nat → SE → SH → Prop) (m : Nat) (h0 : I m e h) (hb : ∀ m e h, I m e h → W2 T k b e h (thn2 (fun e' h' => ∃ m', m' < m ∧ I m' e' h') Q)) : W2 T k (.loop b) e h Q := by
  induction m using Nat.strongRecOn generalizing e h with
  | _ m ih =>
    refine ⟨fun w ce ch h1 h2 => ?_⟩
    obtain ⟨n, t, ce1, ch1, w1, e1, h1', a1, a2, a3, a4, a5⟩ := (hb m e h h0).run w ce ch h1 h2
    cases t with
    | nrm =>
      obtain ⟨m', hm, hI⟩ := a2
      obtain ⟨n2, t', ce2, ch2, w2, e2, h2', b1, b2, b3, b4, b5⟩ := (ih m' hm hI).run w1 ce1 ch1 a3 a4
      refine ⟨max n n2 + 1, t', ce2, ch2, w2, e2, h2', ?_, b2, b3, b4, a5.trans b5⟩
      simp only [exC, exL] at b1 ⊢
      rw [exC_le (exN_le (by omega)) (by omega) a1]
      exact exL_le (fun hb => exC_le (exN_le (by omega)) (by omega) hb) (by omega) b1
    | ret =>
      refine ⟨n + 1, _, ce1, ch1, w1, e1, h1', ?_, a2, a3, a4, a5⟩
      simp only [exC, exL]
      rw [exC_le (exN_le (by omega)) (by omega) a1]
    | ex i =>
      refine ⟨n + 1, _, ce1, ch1, w1, e1, h1', ?_, a2, a3, a4, a5⟩
      simp only [exC, exL]
      rw [exC_le (exN_le (by omega)) (by omega) a1]
/-- one round of a loop -/
theorem W2_unroll {b : AC} (hb : W2 T k b e h (thn2 (fun e' h' => W2 T k (.loop b) e' h' Q) Q)) : W2 T k (.loop b) e h Q := by
  refine ⟨fun w ce ch h1 h2 => ?_⟩
  obtain ⟨n, t, ce1, ch1, w1, e1, h1', a1, a2, a3, a4, a5⟩ := hb.run w ce ch h1 h2
  cases t with
  | nrm =>
    obtain ⟨n2, t', ce2, ch2, w2, e2, h2', b1, b2, b3, b4, b5⟩ := W2.run a2 w1 ce1 ch1 a3 a4
    refine ⟨max n n2 + 1, t', ce2, ch2, w2, e2, h2', ?_, b2, b3, b4, a5.trans b5⟩
    simp only [exC, exL] at b1 ⊢
    rw [exC_le (exN_le (by omega)) (by omega) a1]
    exact exL_le (fun hb => exC_le (exN_le (by omega)) (by omega) hb) (by omega) b1
  | ret =>
    refine ⟨n + 1, _, ce1, ch1, w1, e1, h1', ?_, a2, a3, a4, a5⟩
    simp only [exC, exL]
    rw [exC_le (exN_le (by omega)) (by omega) a1]
  | ex i =>
    refine ⟨n + 1, _, ce1, ch1, w1, e1, h1', ?_, a2, a3, a4, a5⟩
    simp only [exC, exL]
    rw [exC_le (exN_le (by omega)) (by omega) a1]
variable {e' : SE} {h' : SH}
theorem W2_run {ops : List AOp} {kp : List Nat} (hr : runK2 ops kp e h = some (e', h')) (hq : Q .nrm e' h') : W2 T k (.reg ops kp) e h Q := by
  unfold runK2 at hr
  split at hr
  · rename_i h1; cases hr; exact W2_reg (run2_sound h1 hq)
  · cases hr
theorem W2_rund {ops : List AOp} {kp : List Nat} (hr : runK2 ops kp e h = some (e', h')) (hq : Q .nrm e' h') : W2 T k (.regd ops [] kp) e h Q := by
  unfold runK2 at hr
  split at hr
  · rename_i h1; cases hr; exact W2_regd (run2_sound h1 hq)
  · cases hr
theorem WO2_fin {l : List AOp} {kp : List Nat} (hr : runK2 l kp e h = some (e', h')) (hq : Q .nrm e' h') : WO2 T k l e h fun e h => Q .nrm (kp.map fun s => (s, eg e s)) h := by
  unfold runK2 at hr
  split at hr
  · rename_i h1; cases hr; exact run2_sound h1 hq
  · cases hr
/-! ### results -/
def ares2 (r : RV) (e : SE) (h : SH) : Option SV :=
  match r with
  | .t n => some (eg e n)
  | .cell n sz => ld2 sz (eg e n) h
def aress2 : List RV → SE → SH → Option (List SV)
  | [], _, _ => some []
  | r :: rs, e, h =>
    match ares2 r e h, aress2 rs e h with
    | some v, some vs => some (v :: vs)
    | _, _ => none
def SV.isTup : SV → Bool
  | .tup _ => true
  | .un => true
  | .alt _ _ => true
  | _ => false
def tie2 : List SV → Option SV
  | [v] => some v
  | vs => if vs.any SV.isTup then none else some (.tup vs)
theorem RS.ntup {w : Wd} {n : Nat} {v : SV} {a : AV} (h : RS w n v a) (hv : v.isTup = false) : a.isTup = false := by
  cases h with
  | p h => cases h <;> rfl
  | tup => cases hv
  | un => cases hv
  | altT => cases hv
  | altF => cases hv
  | _ => rfl
theorem aress2_ok {w : Wd} {ch : AH} {ce : Env} (r : RH w h ch) (he : RE w h.length e ce) : ∀ {rs : List RV} {vs : List SV}, aress2 rs e h = some vs → ∃ cvs, aress rs ce ch = some cvs ∧ P2 (RS w h.length) vs cvs
  | [], vs, hv => by cases hv; exact ⟨[], rfl, .nil⟩
  | x :: rs, vs, hv => by
    simp only [aress2] at hv
    split at hv
    · rename_i v vs' h1 h2
      cases hv
      obtain ⟨cvs, h3, h4⟩ := aress2_ok r he h2
      cases x with
      | t n =>
        cases h1
        exact ⟨_, by simp only [aress, ares, h3], .cons (he n) h4⟩
      | cell n sz =>
        obtain ⟨cv, h5, h6⟩ := ld2_ok r (he n) h1
        exact ⟨_, by simp only [aress, ares, h3, h5, Option.map_some], .cons h6 h4⟩
    · cases hv
theorem tie2_ok {w : Wd} {n : Nat} {vs : List SV} {cvs : List AV} {v : SV} (hp : P2 (RS w n) vs cvs) (ht : tie2 vs = some v) : ∃ cv, tie cvs = some cv ∧ RS w n v cv := by
  unfold tie2 at ht
  split at ht
  · cases ht
    match cvs, hp with
    | [c], hp => exact ⟨c, rfl, hp.2 0 _ c rfl rfl⟩
    | [], hp => have := hp.1; simp at this
    | _ :: _ :: _, hp => have := hp.1; simp at this
  · rename_i hne
    split at ht
    · cases ht
    · rename_i hall
      cases ht
      have hall' : cvs.any AV.isTup = false := by
        rw [List.any_eq_false]
        intro a ha
        obtain ⟨j, hj⟩ := List.mem_iff_getElem?.1 ha
        have hj' : j < vs.length := by rw [hp.1]; exact (List.getElem?_eq_some_iff.1 hj).1
        have h1 := hp.2 j vs[j] a (List.getElem?_eq_getElem hj') hj
        have h2 : vs[j].isTup = false := by
          cases hb : vs[j].isTup with
          | false => rfl
          | true => exact (hall (List.any_eq_true.2 ⟨_, List.getElem_mem hj', hb⟩)).elim
        rw [h1.ntup h2]; simp
      refine ⟨.tup cvs, ?_, .tup hp.1 hp.2⟩
      match cvs, hp, hall' with
      | [c], hp, _ =>
        match vs, hp with
        | [v], _ => exact (hne v rfl).elim
        | [], hp => have := hp.1; simp at this
        | _ :: _ :: _, hp => have := hp.1; simp at this
      | [], _, hall' => rfl
      | _ :: _ :: _, _, hall' => simp only [tie, hall']; rfl
def bindS : Nat → List SV → SE
  | _, [] => []
  | j, v :: r => (j, v) :: bindS (j + 1) r
theorem bindS_ok {w : Wd} {n : Nat} : ∀ {vs : List SV} {cvs : List AV} {j : Nat}, P2 (RS w n) vs cvs → RE w n (bindS j vs) (bindA j cvs)
  | [], cvs, j, hp, s => .un
  | v :: vs, cvs, j, hp, s => by
    cases cvs with
    | nil => have := hp.1; simp at this
    | cons c cvs =>
      simp only [bindS, bindA, eg, eget]
      split
      · exact hp.2 0 v c rfl rfl
      · exact bindS_ok (vs := vs) (cvs := cvs) ⟨by have := hp.1; simpa using this, fun i x y hx hy => hp.2 (i + 1) x y (by simpa using hx) (by simpa using hy)⟩ s
/-- a function of the table -/
theorem Ret2_fn {f : Nat} {F : AFun} {np : Nat} {res : List RV} {body : AC} (hf : T f = some (.fn F)) (hF : F = ⟨np, res, body⟩) {args : List SV} {R : SV → SH → Prop} (hn : args.length = np)
    (hw : W2 T k body (bindS 0 args) h fun t e' h' => (t = .nrm ∨ t = .ret) ∧ ∃ vs v, aress2 res e' h' = some vs ∧ tie2 vs = some v ∧ R v h') : Ret2 T k f args h R := by
  subst hF
  refine ⟨fun w ca ch h1 h2 => ?_⟩
  obtain ⟨n, t, ce', ch', w', e', h', a1, a2, a3, a4, a5⟩ := hw.run w _ ch h1 (bindS_ok h2)
  obtain ⟨ht, vs, v, b1, b2, b3⟩ := a2
  obtain ⟨cvs, c1, c2⟩ := aress2_ok a3 a4 b1
  obtain ⟨cv, c3, c4⟩ := tie2_ok c2 b2
  refine ⟨n + 1, cv, ch', w', v, h', ?_, b3, a3, c4, a5⟩
  simp only [exN, hf, exF]
  rw [if_pos (by rw [← h2.1]; exact hn)]
  rcases ht with rfl | rfl <;> simp [a1, c1, c3]
theorem Ret2_spec {f : Nat} {g : List AV → Option AV} (hf : T f = some (.spec g)) {args : List SV} {v : SV} {R : SV → SH → Prop} (hg : ∀ (w : Wd) cargs, P2 (RS w h.length) args cargs → ∃ cv, g cargs = some cv ∧ RS w h.length v cv) (hr : R v h) : Ret2 T k f args h R := by
  refine ⟨fun w ca ch h1 h2 => ?_⟩
  obtain ⟨cv, h3, h4⟩ := hg w ca h2
  exact ⟨1, cv, ch, w, v, h, by simp [exN, hf, h3], hr, h1, h4, .refl _ _ _ _⟩
end
end Go.Proofs.Ytpgoemmjhnnmoaa.Ab
