/- A logic for the machine: what a call, a piece of code, a list of operations comes to, with enough fuel. -/
import Derived.Test.YtpgoemmjhnnmoaaAb
namespace Go.Proofs.Ytpgoemmjhnnmoaa.Ab
open Go
set_option linter.unusedVariables false

/-! ### more fuel does no harm -/
def CLe (C D : CallF) : Prop := ∀ f args h r, C f args h = some r → D f args h = some r
theorem CLe.refl (C : CallF) : CLe C C := fun _ _ _ _ h => h
theorem CLe.trans {A B C : CallF} (h : CLe A B) (g : CLe B C) : CLe A C := fun _ _ _ _ r => g _ _ _ _ (h _ _ _ _ r)
theorem exOp_le {C D : CallF} (hl : CLe C D) {o : AO} {e : Env} {h : AH} {r : AV × AH} (hr : exOp C o e h = some r) : exOp D o e h = some r := by
  unfold exOp at hr ⊢
  split at hr
  · exact hl _ _ _ _ hr
  · split at hr
    · exact hl _ _ _ _ hr
    · cases hr
  · exact hr
theorem stepOp_le {C D : CallF} (hl : CLe C D) {o : AOp} {e : Env} {h : AH} {r : AV × AH} (hr : stepOp C o e h = some r) : stepOp D o e h = some r := by
  unfold stepOp at hr ⊢
  split at hr
  · exact exOp_le hl hr
  · exact hr
  · cases hr
theorem exOps_le {C D : CallF} (hl : CLe C D) : ∀ {l : List AOp} {e : Env} {h : AH} {r : Env × AH}, exOps C l e h = some r → exOps D l e h = some r
  | [], e, h, r, hr => hr
  | o :: l, e, h, r, hr => by
    simp only [exOps] at hr ⊢
    split at hr
    · rename_i hs
      rw [stepOp_le hl hs]
      exact exOps_le hl hr
    · cases hr
theorem exTr_le {C D : CallF} (hl : CLe C D) : ∀ {l : List AOp} {e : Env} {h : AH} {r : List (Env × AH × AV) × Env × AH}, exTr C l e h = some r → exTr D l e h = some r
  | [], e, h, r, hr => hr
  | o :: l, e, h, r, hr => by
    simp only [exTr] at hr ⊢
    split at hr
    · rename_i hs
      rw [stepOp_le hl hs]
      split at hr
      · rename_i ht
        simp only [exTr_le hl ht]
        exact hr
      · cases hr
    · cases hr
theorem exL_le {B B' : Env → AH → Option (XT × Env × AH)} (hB : ∀ {e h r}, B e h = some r → B' e h = some r) : ∀ {n m : Nat} {e : Env} {h : AH} {r : XT × Env × AH}, n ≤ m → exL B n e h = some r → exL B' m e h = some r
  | 0, m, e, h, r, hn, hr => by cases hr
  | n + 1, 0, e, h, r, hn, hr => by omega
  | n + 1, m + 1, e, h, r, hn, hr => by
    simp only [exL] at hr ⊢
    split at hr
    · rename_i hb; rw [hB hb]; exact exL_le hB (by omega) hr
    · rename_i hb; rw [hB hb]; exact hr
    · rename_i hb; rw [hB hb]; exact hr
    · cases hr
theorem exC_le {C D : CallF} (hl : CLe C D) {n m : Nat} (hn : n ≤ m) : ∀ {c : AC} {e : Env} {h : AH} {r : XT × Env × AH}, exC C n c e h = some r → exC D m c e h = some r
  | .skip, e, h, r, hr => hr
  | .ret, e, h, r, hr => hr
  | .exit _, e, h, r, hr => hr
  | .seq a b, e, h, r, hr => by
    simp only [exC] at hr ⊢
    split at hr
    · rename_i ha; rw [exC_le hl hn ha]; exact exC_le hl hn hr
    · rename_i ha; rw [exC_le hl hn ha]; exact hr
    · rename_i ha; rw [exC_le hl hn ha]; exact hr
    · cases hr
  | .cond c a b, e, h, r, hr => by
    simp only [exC] at hr ⊢
    split at hr
    · exact exC_le hl hn hr
    · exact exC_le hl hn hr
    · cases hr
  | .block i b, e, h, r, hr => by
    simp only [exC] at hr ⊢
    split at hr
    · rename_i hb; rw [exC_le hl hn hb]; exact hr
    · rename_i hb; rw [exC_le hl hn hb]; exact hr
    · rename_i hb; rw [exC_le hl hn hb]; exact hr
    · cases hr
  | .loop b, e, h, r, hr => by
    simp only [exC] at hr ⊢
    exact exL_le (fun hb => exC_le hl hn hb) hn hr
  | .reg ops kp, e, h, r, hr => by
    simp only [exC] at hr ⊢
    split at hr
    · rename_i ho; rw [exOps_le hl ho]; exact hr
    · cases hr
  | .regd ops rc kp, e, h, r, hr => by
    simp only [exC] at hr ⊢
    split at hr
    · rename_i ho; rw [exTr_le hl ho]; exact hr
    · cases hr
theorem exF_le {C D : CallF} (hl : CLe C D) {n m : Nat} (hn : n ≤ m) {F : AFun} {args : List AV} {h : AH} {r : AV × AH} (hr : exF C n F args h = some r) : exF D m F args h = some r := by
  unfold exF at hr ⊢
  split at hr
  · rename_i hlen
    rw [if_pos hlen]
    split at hr
    · rename_i hc; rw [exC_le hl hn hc]; exact hr
    · rename_i hc; rw [exC_le hl hn hc]; exact hr
    · cases hr
  · cases hr
theorem exN_le {T : AT} : ∀ {n m : Nat}, n ≤ m → CLe (exN T n) (exN T m)
  | 0, m, _, f, args, h, r, hr => by simp [exN] at hr
  | n + 1, 0, hn, f, args, h, r, hr => by omega
  | n + 1, m + 1, hn, f, args, h, r, hr => by
    have ih : CLe (exN T n) (exN T m) := exN_le (by omega)
    simp only [exN] at hr ⊢
    split at hr
    · exact exF_le ih (by omega) hr
    · exact hr
    · cases hr

/-- a function that takes nothing and always gives the same -/
def always (v : AV) : List AV → Option AV
  | [] => some v
  | _ => none
/-! ### what code comes to -/
structure Ret (T : AT) (f : Nat) (args : List AV) (h : AH) (R : AV → AH → Prop) : Prop where
  run : ∃ n v h', exN T n f args h = some (v, h') ∧ R v h'
structure W (T : AT) (c : AC) (e : Env) (h : AH) (Q : XT → Env → AH → Prop) : Prop where
  run : ∃ n t e' h', exC (exN T n) n c e h = some (t, e', h') ∧ Q t e' h'
structure WO (T : AT) (ops : List AOp) (e : Env) (h : AH) (K : Env → AH → Prop) : Prop where
  run : ∃ n e' h', exOps (exN T n) ops e h = some (e', h') ∧ K e' h'

section
variable {T : AT} {Q : XT → Env → AH → Prop} {K : Env → AH → Prop} {e : Env} {h : AH}
theorem Ret.mono {f : Nat} {args : List AV} {R R' : AV → AH → Prop} (r : Ret T f args h R) (hr : ∀ v h', R v h' → R' v h') : Ret T f args h R' := by
  obtain ⟨n, v, h', h1, h2⟩ := r
  exact ⟨n, v, h', h1, hr _ _ h2⟩
theorem W.mono {c : AC} {Q' : XT → Env → AH → Prop} (w : W T c e h Q) (hq : ∀ t e h, Q t e h → Q' t e h) : W T c e h Q' := by
  obtain ⟨n, t, e', h', h1, h2⟩ := w
  exact ⟨n, t, e', h', h1, hq _ _ _ h2⟩
theorem WO.mono {l : List AOp} {K' : Env → AH → Prop} (w : WO T l e h K) (hk : ∀ e h, K e h → K' e h) : WO T l e h K' := by
  obtain ⟨n, e', h', h1, h2⟩ := w
  exact ⟨n, e', h', h1, hk _ _ h2⟩

theorem WO_nil (hk : K e h) : WO T [] e h K := ⟨0, e, h, rfl, hk⟩
theorem WO_step {o : AOp} {l : List AOp} {n : Nat} {v : AV} {h' : AH} (hs : stepOp (exN T n) o e h = some (v, h')) (hk : WO T l (eput e o.d v) h' K) : WO T (o :: l) e h K := by
  obtain ⟨m, e2, h2, h3, h4⟩ := hk
  refine ⟨max n m, e2, h2, ?_, h4⟩
  simp only [exOps, stepOp_le (exN_le (Nat.le_max_left n m)) hs]
  exact exOps_le (exN_le (Nat.le_max_right n m)) h3
/-- an operation that is no call -/
theorem WO_op {d : Option Nat} {g : Option (Nat × Bool)} {o : AO} {l : List AOp} {v : AV} {h' : AH} (hg : guarded e g = some true) (ho : ∀ C, exOp C o e h = some (v, h')) (hk : WO T l (eput e d v) h' K) : WO T (⟨d, g, o⟩ :: l) e h K :=
  WO_step (n := 0) (by simp only [stepOp, hg]; exact ho _) hk
theorem WO_skip {d : Option Nat} {g : Option (Nat × Bool)} {o : AO} {l : List AOp} (hg : guarded e g = some false) (hk : WO T l (eput e d (.tup [])) h K) : WO T (⟨d, g, o⟩ :: l) e h K :=
  WO_step (n := 0) (by simp only [stepOp, hg]) hk
theorem WO_call {d : Option Nat} {g : Option (Nat × Bool)} {f : Nat} {args : List AX} {l : List AOp} (hg : guarded e g = some true) (hr : Ret T f (args.map (ev e)) h fun v h' => WO T l (eput e d v) h' K) : WO T (⟨d, g, .call f args⟩ :: l) e h K := by
  obtain ⟨n, v, h', h1, h2⟩ := hr
  exact WO_step (n := n) (by simp only [stepOp, hg]; exact h1) h2
theorem WO_callv {d : Option Nat} {g : Option (Nat × Bool)} {x : AX} {args : List AX} {l : List AOp} {f : Nat} {first cap : List (Nat × Nat)} (hg : guarded e g = some true) (hx : ev e x = .fn f first cap)
    (hr : Ret T f (first.map (fun p => .ptr p.1 p.2) ++ args.map (ev e) ++ cap.map (fun p => .ptr p.1 p.2)) h fun v h' => WO T l (eput e d v) h' K) : WO T (⟨d, g, .callv x args⟩ :: l) e h K := by
  obtain ⟨n, v, h', h1, h2⟩ := hr
  exact WO_step (n := n) (by simp only [stepOp, hg, exOp, hx]; exact h1) h2

theorem W_skip (hq : Q .nrm e h) : W T .skip e h Q := ⟨0, _, _, _, rfl, hq⟩
theorem W_ret (hq : Q .ret e h) : W T .ret e h Q := ⟨0, _, _, _, rfl, hq⟩
theorem W_exit {i : Nat} (hq : Q (.ex i) e h) : W T (.exit i) e h Q := ⟨0, _, _, _, rfl, hq⟩
/-- then .. -/
def thn (K : Env → AH → Prop) (Q : XT → Env → AH → Prop) : XT → Env → AH → Prop
  | .nrm, e, h => K e h
  | .ret, e, h => Q .ret e h
  | .ex i, e, h => Q (.ex i) e h
def blk (i : Nat) (Q : XT → Env → AH → Prop) : XT → Env → AH → Prop
  | .ex j, e, h => if j = i then Q .nrm e h else Q (.ex j) e h
  | .nrm, e, h => Q .nrm e h
  | .ret, e, h => Q .ret e h
theorem W_seq {a b : AC} (ha : W T a e h (thn (fun e h => W T b e h Q) Q)) : W T (.seq a b) e h Q := by
  obtain ⟨n, t, e1, h1, h2, h3⟩ := ha
  cases t with
  | nrm =>
    obtain ⟨m, t', e2, h4, h5, h6⟩ := h3
    refine ⟨max n m, t', e2, h4, ?_, h6⟩
    simp only [exC, exC_le (exN_le (Nat.le_max_left n m)) (Nat.le_max_left n m) h2]
    exact exC_le (exN_le (Nat.le_max_right n m)) (Nat.le_max_right n m) h5
  | ret => exact ⟨n, _, e1, h1, by simp only [exC, h2], h3⟩
  | ex i => exact ⟨n, _, e1, h1, by simp only [exC, h2], h3⟩
theorem W_true {c : AX} {a b : AC} (hc : ev e c = .b true) (ha : W T a e h Q) : W T (.cond c a b) e h Q := by
  obtain ⟨n, t, e1, h1, h2, h3⟩ := ha
  exact ⟨n, t, e1, h1, by simp only [exC, hc]; exact h2, h3⟩
theorem W_false {c : AX} {a b : AC} (hc : ev e c = .b false) (hb : W T b e h Q) : W T (.cond c a b) e h Q := by
  obtain ⟨n, t, e1, h1, h2, h3⟩ := hb
  exact ⟨n, t, e1, h1, by simp only [exC, hc]; exact h2, h3⟩
theorem W_cond {c : AX} {a b : AC} {x : Bool} (hc : ev e c = .b x) (ha : x = true → W T a e h Q) (hb : x = false → W T b e h Q) : W T (.cond c a b) e h Q := by
  cases x
  · exact W_false hc (hb rfl)
  · exact W_true hc (ha rfl)
theorem W_if {c : AX} {a b : AC} {p : Prop} [Decidable p] (hc : ev e c = .b (decide p)) (ha : p → W T a e h Q) (hb : ¬ p → W T b e h Q) : W T (.cond c a b) e h Q :=
  W_cond hc (fun h => ha (of_decide_eq_true h)) fun h => hb (of_decide_eq_false h)
theorem W_block {i : Nat} {b : AC} (hb : W T b e h (blk i Q)) : W T (.block i b) e h Q := by
  obtain ⟨n, t, e1, h1, h2, h3⟩ := hb
  cases t with
  | nrm => exact ⟨n, _, e1, h1, by simp only [exC, h2], h3⟩
  | ret => exact ⟨n, _, e1, h1, by simp only [exC, h2], h3⟩
  | ex j =>
    simp only [blk] at h3
    split at h3
    · rename_i hj; exact ⟨n, _, e1, h1, by simp only [exC, h2, hj, if_true], h3⟩
    · rename_i hj; exact ⟨n, _, e1, h1, by simp only [exC, h2, hj, if_false], h3⟩
theorem W_reg {ops : List AOp} {kp : List Nat} (ho : WO T ops e h fun e' h' => Q .nrm (keepE kp e') h') : W T (.reg ops kp) e h Q := by
  obtain ⟨n, e1, h1, h2, h3⟩ := ho
  exact ⟨n, _, _, h1, by simp only [exC, h2], h3⟩
/-- a loop, by a number that falls -/
theorem W_loop {b : AC} (I : Nat → Env → AH → Prop) (k : Nat) (h0 : I k e h) (hb : ∀ k e h, I k e h → W T b e h (thn (fun e' h' => ∃ k', k' < k ∧ I k' e' h') Q)) : W T (.loop b) e h Q := by
  induction k using Nat.strongRecOn generalizing e h with
  | _ k ih =>
    obtain ⟨n, t, e1, h1, h2, h3⟩ := hb k e h h0
    cases t with
    | nrm =>
      obtain ⟨k', hk, hI⟩ := h3
      obtain ⟨m, t', e2, h4, h5, h6⟩ := ih k' hk hI
      refine ⟨max n m + 1, t', e2, h4, ?_, h6⟩
      simp only [exC, exL] at h5 ⊢
      rw [exC_le (exN_le (by omega)) (by omega) h2]
      exact exL_le (fun hb => exC_le (exN_le (by omega)) (by omega) hb) (by omega) h5
    | ret =>
      refine ⟨n + 1, _, e1, h1, ?_, h3⟩
      simp only [exC, exL]
      rw [exC_le (exN_le (by omega)) (by omega) h2]
    | ex i =>
      refine ⟨n + 1, _, e1, h1, ?_, h3⟩
      simp only [exC, exL]
      rw [exC_le (exN_le (by omega)) (by omega) h2]
/-- one round of a loop -/
theorem W_unroll {b : AC} (hb : W T b e h (thn (fun e' h' => W T (.loop b) e' h' Q) Q)) : W T (.loop b) e h Q := by
  obtain ⟨n, t, e1, h1, h2, h3⟩ := hb
  cases t with
  | nrm =>
    obtain ⟨m, t', e2, h4, h5, h6⟩ := h3
    refine ⟨max n m + 1, t', e2, h4, ?_, h6⟩
    simp only [exC, exL] at h5 ⊢
    rw [exC_le (exN_le (by omega)) (by omega) h2]
    exact exL_le (fun hb => exC_le (exN_le (by omega)) (by omega) hb) (by omega) h5
  | ret =>
    refine ⟨n + 1, _, e1, h1, ?_, h3⟩
    simp only [exC, exL]
    rw [exC_le (exN_le (by omega)) (by omega) h2]
  | ex i =>
    refine ⟨n + 1, _, e1, h1, ?_, h3⟩
    simp only [exC, exL]
    rw [exC_le (exN_le (by omega)) (by omega) h2]
/-- a function of the table -/
theorem Ret_of {f : Nat} {F : AFun} (hf : T f = some (.fn F)) {args : List AV} {R : AV → AH → Prop} (hn : args.length = F.np)
    (hw : W T F.body (bindA 0 args) h fun t e' h' => (t = .nrm ∨ t = .ret) ∧ ∃ vs v, aress F.res e' h' = some vs ∧ tie vs = some v ∧ R v h') : Ret T f args h R := by
  obtain ⟨n, t, e1, h1, h2, h3, vs, v, h4, h5, h6⟩ := hw
  refine ⟨n + 1, v, h1, ?_, h6⟩
  simp only [exN, hf, exF, if_pos hn]
  rcases h3 with rfl | rfl <;> simp [h2, h4, h5]
theorem Ret_fn {f : Nat} {F : AFun} {np : Nat} {res : List RV} {body : AC} (hf : T f = some (.fn F)) (hF : F = ⟨np, res, body⟩) {args : List AV} {R : AV → AH → Prop} (hn : args.length = np)
    (hw : W T body (bindA 0 args) h fun t e' h' => (t = .nrm ∨ t = .ret) ∧ ∃ vs v, aress res e' h' = some vs ∧ tie vs = some v ∧ R v h') : Ret T f args h R := by
  subst hF
  exact Ret_of hf hn hw
theorem Ret_spec {f : Nat} {g : List AV → Option AV} (hf : T f = some (.spec g)) {args : List AV} {v : AV} {R : AV → AH → Prop} (hg : g args = some v) (hr : R v h) : Ret T f args h R :=
  ⟨1, v, h, by simp [exN, hf, hg], hr⟩

/-! ### regions whose order is open -/
/-- the states so far, the last one first; the operations so far, likewise -/
structure WD (T : AT) (ops : List AOp) (e : Env) (h : AH) (K : List (Env × AH × AV) → Env → AH → Prop) : Prop where
  run : ∃ n tr e' h', exTr (exN T n) ops e h = some (tr, e', h') ∧ K tr e' h'
theorem WD_nil {K : List (Env × AH × AV) → Env → AH → Prop} (hk : K [] e h) : WD T [] e h K := ⟨0, _, e, h, rfl, hk⟩
theorem WD_step {K : List (Env × AH × AV) → Env → AH → Prop} {o : AOp} {l : List AOp} {n : Nat} {v : AV} {h' : AH} (hs : stepOp (exN T n) o e h = some (v, h'))
    (hk : WD T l (eput e o.d v) h' fun tr => K ((e, h, v) :: tr)) : WD T (o :: l) e h K := by
  obtain ⟨m, tr, e2, h2, h3, h4⟩ := hk
  refine ⟨max n m, _, e2, h2, ?_, h4⟩
  simp only [exTr, stepOp_le (exN_le (Nat.le_max_left n m)) hs]
  rw [exTr_le (exN_le (Nat.le_max_right n m)) h3]
theorem W_regd {ops : List AOp} {rc : List (Nat × Nat)} {kp : List Nat} (ho : WD T ops e h fun tr e' h' => rcOk ops tr h' rc = true ∧ Q .nrm (keepE kp e') h') : W T (.regd ops rc kp) e h Q := by
  obtain ⟨n, tr, e1, h1, h2, h3, h4⟩ := ho
  exact ⟨n, _, _, h1, by simp only [exC, h2, h3, if_true], h4⟩
theorem WD_of {l : List AOp} (w : WO T l e h K) : WD T l e h fun _ e' h' => K e' h' := by
  obtain ⟨n, e', h', h1, h2⟩ := w
  have : ∀ {C : CallF} {l : List AOp} {e : Env} {h : AH} {e' : Env} {h' : AH}, exOps C l e h = some (e', h') → ∃ tr, exTr C l e h = some (tr, e', h') := by
    intro C l
    induction l with
    | nil => intro e h e' h' hr; simp [exOps] at hr; exact ⟨[], by simp [exTr, hr]⟩
    | cons o l ih =>
      intro e h e' h' hr
      simp only [exOps] at hr
      split at hr
      · rename_i hs
        obtain ⟨tr, ht⟩ := ih hr
        exact ⟨(_, _, _) :: tr, by simp only [exTr, hs, ht]; rfl⟩
      · cases hr
  obtain ⟨tr, ht⟩ := this h1
  exact ⟨n, tr, e', h', ht, h2⟩
theorem W_regd0 {ops : List AOp} {kp : List Nat} (ho : WO T ops e h fun e' h' => Q .nrm (keepE kp e') h') : W T (.regd ops [] kp) e h Q := by
  obtain ⟨n, tr, e1, h1, h2, h3⟩ := WD_of ho
  exact ⟨n, _, _, h1, by simp only [exC, h2, rcOk, List.all_nil, if_true], h3⟩
end

theorem beq_ft : (false == true) = false := rfl
theorem beq_tf : (true == false) = false := rfl
/-! ### running on until a call, or until an operation that turns memory -/
/-- where a run stops: a call, or an operation -/
inductive Stop where
  | call (d : Option Nat) (f : Nat) (args : List AV) (rest : List AOp)
  | op (d : Option Nat) (o : AO) (rest : List AOp)
inductive Nx where
  | go | halt | call (f : Nat) (args : List AV) | bad
def nxt (o : AO) (e : Env) : Nx :=
  match o with
  | .call f args => .call f (args.map (ev e))
  | .callv x args =>
    match ev e x with
    | .fn g first cap => .call g (first.map (fun p => .ptr p.1 p.2) ++ args.map (ev e) ++ cap.map (fun p => .ptr p.1 p.2))
    | _ => .bad
  | .st _ _ _ | .mup _ _ _ _ | .ment _ _ _ _ | .mst _ _ _ | .app _ _ _ _ | .cpy _ _ _ | .del _ _ _ | .clr _ _ _ | .lkp _ _ _ _ _ | .mks _ _ _ _ _ => .halt
  | _ => .go
def run : List AOp → Env → AH → Option (Env × AH × Option Stop)
  | [], e, h => some (e, h, none)
  | ⟨d, g, o⟩ :: r, e, h =>
    match guarded e g with
    | some true =>
      match nxt o e with
      | .call f args => some (e, h, some (.call d f args r))
      | .halt => some (e, h, some (.op d o r))
      | .go =>
        match aop o e h with
        | some (v, h') => run r (eput e d v) h'
        | none => none
      | .bad => none
    | some false => run r (eput e d (.tup [])) h
    | none => none
theorem nxt_call {C : CallF} {o : AO} {e : Env} {h : AH} {f : Nat} {args : List AV} (hc : nxt o e = .call f args) : exOp C o e h = C f args h := by
  unfold nxt at hc
  split at hc <;> try cases hc
  · rfl
  · split at hc
    · rename_i hx
      cases hc
      simp only [exOp, hx]
    · cases hc
theorem nxt_op {C : CallF} {o : AO} {e : Env} {h : AH} (hc : nxt o e = .go ∨ nxt o e = .halt) : exOp C o e h = aop o e h := by
  cases o with
  | call => simp [nxt] at hc
  | callv => simp only [nxt] at hc; split at hc <;> simp at hc
  | _ => rfl
def K2 (T : AT) (K : Env → AH → Prop) (e : Env) (h : AH) : Option Stop → Prop
  | none => K e h
  | some (.call d f args rest) => Ret T f args h fun v h2 => WO T rest (eput e d v) h2 K
  | some (.op d o rest) => ∃ v h2, aop o e h = some (v, h2) ∧ WO T rest (eput e d v) h2 K
theorem run_sound {T : AT} : ∀ {l : List AOp} {e e' : Env} {h h' : AH} {s : Option Stop} {K : Env → AH → Prop}, run l e h = some (e', h', s) → K2 T K e' h' s → WO T l e h K
  | [], e, e', h, h', s, K, hr, hk => by cases hr; exact WO_nil hk
  | ⟨d, g, o⟩ :: l, e, e', h, h', s, K, hr, hk => by
    simp only [run] at hr
    split at hr
    · rename_i hg
      split at hr
      · rename_i hc
        cases hr
        obtain ⟨n, v, h2, h3, h4⟩ := hk
        exact WO_step (n := n) (by simp only [stepOp, hg]; rw [nxt_call hc]; exact h3) h4
      · rename_i hc
        cases hr
        obtain ⟨v, h2, h3, h4⟩ := hk
        exact WO_op hg (fun C => by rw [nxt_op (.inr hc)]; exact h3) h4
      · rename_i hc
        split at hr
        · rename_i ha
          exact WO_op hg (fun C => by rw [nxt_op (.inl hc)]; exact ha) (run_sound hr hk)
        · cases hr
      · cases hr
    · rename_i hg; exact WO_skip hg (run_sound hr hk)
    · cases hr
section
variable {T : AT} {Q : XT → Env → AH → Prop} {K : Env → AH → Prop} {e e' : Env} {h h' : AH}
/-- a region without a call -/
def runK (ops : List AOp) (kp : List Nat) (e : Env) (h : AH) : Option (Env × AH) :=
  match run ops e h with
  | some (e', h', none) => some (keepE kp e', h')
  | _ => none
theorem W_run {ops : List AOp} {kp : List Nat} (hr : runK ops kp e h = some (e', h')) (hq : Q .nrm e' h') : W T (.reg ops kp) e h Q := by
  unfold runK at hr
  split at hr
  · rename_i h1; cases hr; exact W_reg (run_sound h1 hq)
  · cases hr
theorem W_rund {ops : List AOp} {kp : List Nat} (hr : runK ops kp e h = some (e', h')) (hq : Q .nrm e' h') : W T (.regd ops [] kp) e h Q := by
  unfold runK at hr
  split at hr
  · rename_i h1; cases hr; exact W_regd0 (run_sound h1 hq)
  · cases hr
/-- the tail of a region: no more stops -/
theorem WO_fin {l : List AOp} {kp : List Nat} (hr : runK l kp e h = some (e', h')) (hq : Q .nrm e' h') : WO T l e h fun e h => Q .nrm (keepE kp e) h := by
  unfold runK at hr
  split at hr
  · rename_i h1; cases hr; exact run_sound h1 hq
  · cases hr
/-- a call, then the rest -/
theorem WO_run {l : List AOp} {d : Option Nat} {f : Nat} {args : List AV} {rest : List AOp} (hr : run l e h = some (e', h', some (.call d f args rest))) (hk : Ret T f args h' fun v h2 => WO T rest (eput e' d v) h2 K) : WO T l e h K := run_sound hr hk
/-- an operation that turns memory, then the rest -/
theorem WO_halt {l : List AOp} {d : Option Nat} {o : AO} {rest : List AOp} {v : AV} {h2 : AH} (hr : run l e h = some (e', h', some (.op d o rest))) (ha : aop o e' h' = some (v, h2)) (hk : WO T rest (eput e' d v) h2 K) : WO T l e h K := run_sound hr ⟨v, h2, ha, hk⟩
theorem WO_end {l : List AOp} (hr : run l e h = some (e', h', none)) (hk : K e' h') : WO T l e h K := run_sound hr hk
end
end Go.Proofs.Ytpgoemmjhnnmoaa.Ab
