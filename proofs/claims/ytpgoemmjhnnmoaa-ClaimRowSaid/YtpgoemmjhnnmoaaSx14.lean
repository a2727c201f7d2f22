/- The second machine: operations that are done only where something holds, without a look at both cases. -/
import Derived.Test.YtpgoemmjhnnmoaaSx13
import Derived.Attr
namespace Go.Proofs.Ytpgoemmjhnnmoaa.Ab
open Go
set_option linter.unusedVariables false
def und (P : List Bool) : SV → SV
  | .alt Q v => if Q.isPrefixOf P = true then v else .alt Q v
  | .p v => .p v
  | .ptr id off => .ptr id off
  | .ep a b c d => .ep a b c d
  | .sl a b c d e => .sl a b c d e
  | .so a b c d => .so a b c d
  | .mp id => .mp id
  | .fn f a c => .fn f a c
  | .agg cs => .agg cs
  | .tup vs => .tup vs
  | .un => .un
def SE.und (P : List Bool) : SE → SE
  | [] => []
  | (s, v) :: r => (s, Ab.und P v) :: SE.und P r
theorem eg_und (P : List Bool) : ∀ (e : SE) (s : Nat), eg (SE.und P e) s = und P (eg e s)
  | [], s => rfl
  | (m, v) :: r, s => by
    simp only [SE.und, eg]
    split
    · rfl
    · exact eg_und P r s
def gP (w : Bool) : SV → Option (List Bool)
  | .p (.b y) => some [if w then y else !y]
  | .alt P (.p (.b y)) => some (P ++ [if w then y else !y])
  | .tup [] => some [false]
  | _ => none
def guardP (e : SE) : Option (Nat × Bool) → Option (List Bool)
  | none => some []
  | some (s, w) => gP w (eg e s)
def pickB (y a b : Bool) : Bool := if y then a else b
theorem pickB_t (y b : Bool) : pickB y true b = (y || b) := by cases y <;> rfl
theorem pickB_f (y a : Bool) : pickB y a false = (y && a) := by cases y <;> rfl
def pickV (P : List Bool) (e : SE) (c a b : AX) : Option SV :=
  match und P (evs e c) with
  | .p (.b y) =>
    match und (P ++ [y]) (evs e a), und (P ++ [!y]) (evs e b) with
    | .p (.b va), .p (.b vb) => some (.p (.b (pickB y va vb)))
    | x, z => (match y with | true => some x | false => some z)
  | _ => none
def stepA (P : List Bool) (o : AO) (e : SE) (h : SH) : Option (SV × SH) :=
  match o with
  | .pick c a b => ph h (pickV P e c a b)
  | o => aop2 o (SE.und P e) h
/-- where a run is: on its way, at a call, or lost -/
inductive St2 where
  | go (e : SE) (h : SH)
  | stop (e : SE) (h : SH) (s : Stop2)
  | bad
/-- one operation; where it isn't told whether it is wanted, its value is told for where it is -/
def stpA (s : St2) (op : AOp) : St2 :=
  match s with
  | .bad => .bad
  | .stop e h s => .stop e h ⟨s.d, s.f, s.args, s.rest ++ [op]⟩
  | .go e h =>
    match guardP e op.g with
    | none => .bad
    | some [] =>
      match nxt2 op.o e with
      | .call f args => .stop e h ⟨op.d, f, args, []⟩
      | .go =>
        match stepA [] op.o e h with
        | some (v, h') => .go (epu e op.d v) h'
        | none => .bad
      | .bad => .bad
    | some (c :: P) =>
      if quietOp op.o = true then
        match stepA (c :: P) op.o e h with
        | some (v, _) => .go (epu e op.d (.alt (c :: P) v)) h
        | none => if (c :: P).all id = true then .bad else .go (epu e op.d (.alt (c :: P) .un)) h
      else
        match (c :: P).all id with
        | true =>
          match nxt2 op.o (SE.und (c :: P) e) with
          | .call f args => .stop e h ⟨op.d, f, args, []⟩
          | .go =>
            match aop2 op.o (SE.und (c :: P) e) h with
            | some (v, h') => .go (epu e op.d v) h'
            | none => .bad
          | .bad => .bad
        | false => .go (epu e op.d (.tup [])) h
/-- one operation, where it is told whether it is wanted -/
def stpL (s : St2) (op : AOp) : St2 :=
  match s with
  | .bad => .bad
  | .stop e h s => .stop e h ⟨s.d, s.f, s.args, s.rest ++ [op]⟩
  | .go e h =>
    match guarded2 e op.g with
    | some true =>
      match nxt2 op.o e with
      | .call f args => .stop e h ⟨op.d, f, args, []⟩
      | .go =>
        match aop2 op.o e h with
        | some (v, h') => .go (epu e op.d v) h'
        | none => .bad
      | .bad => .bad
    | some false => .go (epu e op.d (.tup [])) h
    | none => .bad
def endS : St2 → Option (SE × SH × Option Stop2)
  | .go e h => some (e, h, none)
  | .stop e h s => some (e, h, some s)
  | .bad => none
def run2a (l : List AOp) (e : SE) (h : SH) : Option (SE × SH × Option Stop2) := endS (l.foldl stpA (.go e h))
def run2l (l : List AOp) (e : SE) (h : SH) : Option (SE × SH × Option Stop2) := endS (l.foldl stpL (.go e h))
section
variable {T : AT} {k : Nat} {Q : XT → SE → SH → Prop} {K : SE → SH → Prop} {e e' : SE} {h h' : SH} {w : Wd} {ch : AH} {n : Nat}
theorem all_pre : ∀ {Q P : List Bool}, Q.isPrefixOf P = true → P.all id = true → Q.all id = true
  | [], _, _, _ => rfl
  | a :: Q, [], h, _ => by simp [List.isPrefixOf] at h
  | a :: Q, b :: P, h, hp => by
    simp only [List.isPrefixOf, Bool.and_eq_true, beq_iff_eq] at h
    simp only [List.all_cons, Bool.and_eq_true] at hp ⊢
    exact ⟨by rw [h.1]; exact hp.1, all_pre h.2 hp.2⟩
theorem und_rs {P : List Bool} (hp : P.all id = true) {v : SV} {a : AV} (hv : RS w n v a) : RS w n (und P v) a := by
  cases hv with
  | altT h1 h2 =>
    simp only [und]
    split
    · exact h2
    · exact .altT h1 h2
  | altF h1 =>
    simp only [und]
    split
    · rename_i hq
      rw [all_pre hq hp] at h1; cases h1
    · exact .altF h1
  | p h => exact .p h
  | ptr a b => exact .ptr a b
  | ep a b => exact .ep a b
  | sl a b c d e f g => exact .sl a b c d e f g
  | slv a b c => exact .slv a b c
  | so a b c => exact .so a b c
  | mp a b => exact .mp a b
  | fn a b c d => exact .fn a b c d
  | agg a b => exact .agg a b
  | tup a b => exact .tup a b
  | un => exact .un
theorem und_re {P : List Bool} (hp : P.all id = true) {e : SE} {ce : Env} (he : RE w n e ce) : RE w n (SE.und P e) ce := fun s => by
  rw [eg_und]; exact und_rs hp (he s)
def gC (x : Bool) : AV → Option Bool
  | .b y => some (y == x)
  | .tup [] => some false
  | _ => none
theorem gP_ok {v : SV} {a : AV} (hv : RS w n v a) {x : Bool} {P : List Bool} (hg : gP x v = some P) : gC x a = some (P.all id) := by
  unfold gP at hg
  split at hg
  · cases hg
    rename_i y; cases hv with | p hv => cases hv with | b => cases x <;> cases y <;> rfl
  · rename_i Q y
    cases hg
    cases hv with
    | altT h1 h2 =>
      cases h2 with | p h2 => cases h2 with | b =>
      simp only [List.all_append, h1]
      cases x <;> cases y <;> rfl
    | altF h1 => simp [gC, List.all_append, h1]
  · cases hg
    cases hv with
    | tup h1 h2 =>
      rename_i ccs
      have : ccs = [] := List.length_eq_zero_iff.1 h1.symm
      subst this
      rfl
  · cases hg
theorem guardP_ok {e : SE} {ce : Env} (he : RE w n e ce) {g : Option (Nat × Bool)} {P : List Bool} (hg : guardP e g = some P) : guarded ce g = some (P.all id) := by
  cases g with
  | none => cases hg; rfl
  | some q =>
    obtain ⟨s, x⟩ := q
    have := gP_ok (he s) hg
    exact this
theorem pickV_ok {P : List Bool} (hp : P.all id = true) {e : SE} {ce : Env} (he : RE w n e ce) {c a b : AX} {v : SV} (hv : pickV P e c a b = some v) : ∃ cv, aop (.pick c a b) ce ch = some (cv, ch) ∧ RS w n v cv := by
  unfold pickV at hv
  split at hv
  · rename_i y hy
    have hc := und_rs hp (evs_rs he c)
    rw [hy] at hc
    generalize hz : ev ce c = z at hc
    cases hc with | p hc => cases hc with | b =>
    have h1 : y = true → RS w n (und (P ++ [y]) (evs e a)) (ev ce a) := fun hy => und_rs (by simp [List.all_append, hp, hy]) (evs_rs he a)
    have h2 : y = false → RS w n (und (P ++ [!y]) (evs e b)) (ev ce b) := fun hy => und_rs (by simp [List.all_append, hp, hy]) (evs_rs he b)
    split at hv
    · rename_i va vb ha hb
      cases hv
      cases y with
      | true => exact ⟨ev ce a, by simp only [aop, hz], by have := h1 rfl; rw [ha] at this; exact this⟩
      | false => exact ⟨ev ce b, by simp only [aop, hz], by have := h2 rfl; rw [hb] at this; exact this⟩
    · cases y with
      | true => cases hv; exact ⟨ev ce a, by simp only [aop, hz], h1 rfl⟩
      | false => cases hv; exact ⟨ev ce b, by simp only [aop, hz], h2 rfl⟩
  · cases hv
theorem foldA_stop (e : SE) (h : SH) : ∀ (l : List AOp) (s : Stop2), l.foldl stpA (.stop e h s) = .stop e h ⟨s.d, s.f, s.args, s.rest ++ l⟩
  | [], s => by simp
  | o :: l, s => by simp only [List.foldl_cons, stpA]; rw [foldA_stop e h l]; simp
theorem foldA_bad : ∀ (l : List AOp), l.foldl stpA .bad = .bad
  | [] => rfl
  | o :: l => by simp only [List.foldl_cons, stpA]; exact foldA_bad l
theorem foldL_stop (e : SE) (h : SH) : ∀ (l : List AOp) (s : Stop2), l.foldl stpL (.stop e h s) = .stop e h ⟨s.d, s.f, s.args, s.rest ++ l⟩
  | [], s => by simp
  | o :: l, s => by simp only [List.foldl_cons, stpL]; rw [foldL_stop e h l]; simp
theorem foldL_bad : ∀ (l : List AOp), l.foldl stpL .bad = .bad
  | [] => rfl
  | o :: l => by simp only [List.foldl_cons, stpL]; exact foldL_bad l
theorem run2l_eq : ∀ {l : List AOp} {e : SE} {h : SH} {r : SE × SH × Option Stop2}, run2l l e h = some r → run2 l e h = some r
  | [], e, h, r, hr => hr
  | ⟨d, g, o⟩ :: l, e, h, r, hr => by
    simp only [run2l, List.foldl_cons, stpL] at hr
    simp only [run2]
    cases hg : guarded2 e g with
    | none => rw [hg] at hr; simp only [foldL_bad, endS] at hr; cases hr
    | some x =>
      rw [hg] at hr
      cases x with
      | false => exact run2l_eq hr
      | true =>
        simp only at hr ⊢
        cases hn : nxt2 o e with
        | call f args => rw [hn] at hr; simp only [foldL_stop, endS, List.nil_append] at hr; exact hr
        | bad => rw [hn] at hr; simp only [foldL_bad, endS] at hr; cases hr
        | go =>
          rw [hn] at hr
          simp only at hr ⊢
          cases ha : aop2 o e h with
          | none => rw [ha] at hr; simp only [foldL_bad, endS] at hr; cases hr
          | some x =>
            obtain ⟨v, h'⟩ := x
            rw [ha] at hr
            exact run2l_eq hr
theorem run2a_sound : ∀ {l : List AOp} {e e' : SE} {h h' : SH} {s : Option Stop2}, run2a l e h = some (e', h', s) → CK T k K e' h' s → WO2 T k l e h K
  | [], e, e', h, h', s, hr, hk => by cases hr; exact WO2_nil hk
  | ⟨d, g, o⟩ :: l, e, e', h, h', s, hr, hk => by
    simp only [run2a, List.foldl_cons, stpA] at hr
    split at hr
    · rw [foldA_bad] at hr; cases hr
    · rename_i hg
      split at hr
      · rename_i hc
        rw [foldA_stop] at hr
        simp only [endS, List.nil_append] at hr
        cases hr
        refine WO2_step fun w ce ch h1 h2 => ?_
        obtain ⟨cargs, q1, q2⟩ := nxt2_call h2 hc
        obtain ⟨n, cv, ch', w', e', h', a1, a2, a3, a4, a5⟩ := hk w ce ch cargs h1 h2 q2
        refine ⟨n, cv, ch', w', e', h', ?_, a2, a3, a4, a5⟩
        simp only [stepOp, guardP_ok h2 hg, List.all_nil, q1]
        exact a1
      · rename_i hc
        split at hr
        · rename_i v h1' ha
          refine WO2_step fun w ce ch h1 h2 => ?_
          have hok : Ok2 k w h ch v h1' (aop o ce ch) := by
            unfold stepA at ha
            split at ha
            · obtain ⟨ha2, rfl⟩ := ph_eq ha
              obtain ⟨cv, b1, b2⟩ := pickV_ok (ch := ch) (P := []) rfl h2 ha2
              exact .pure h1 b1 b2
            · exact aop2_sound h1 (und_re (P := []) rfl h2) ha
          obtain ⟨cv, ch', w', a1, a2, a3, a4, a5, a6⟩ := hok
          refine ⟨0, cv, ch', w', _, h1', ?_, a2, (h2.mono a4 a5).put a3 d, a6, run2a_sound hr hk⟩
          simp only [stepOp, guardP_ok h2 hg, List.all_nil, nxt2_go hc]
          exact a1
        · rw [foldA_bad] at hr; cases hr
      · rw [foldA_bad] at hr; cases hr
    · rename_i c P hg
      split at hr
      · rename_i hq
        have hnc : ∀ C ce ch, exOp C o ce ch = aop o ce ch := fun C ce ch => by cases o <;> first | rfl | (simp [quietOp] at hq; done)
        have hskip : ∀ v, WO2 T k l (epu e d (.alt (c :: P) v)) h K → (∀ w ce ch, RH w h ch → RE w h.length e ce → (c :: P).all id = true → ∃ cv, aop o ce ch = some (cv, ch) ∧ RS w h.length v cv) → WO2 T k (⟨d, g, o⟩ :: l) e h K := fun v hw hv => by
          refine WO2_step fun w ce ch h1 h2 => ?_
          cases hall : (c :: P).all id with
          | true =>
            obtain ⟨cv, a1, a2⟩ := hv w ce ch h1 h2 hall
            refine ⟨0, cv, ch, w, _, h, ?_, h1, h2.put (.altT hall a2) d, .refl _ _ _ _, hw⟩
            simp only [stepOp, guardP_ok h2 hg, hall, hnc]
            exact a1
          | false =>
            refine ⟨0, .tup [], ch, w, _, h, ?_, h1, h2.put (.altF hall) d, .refl _ _ _ _, hw⟩
            simp only [stepOp, guardP_ok h2 hg, hall]
        split at hr
        · rename_i v h1' ha
          refine hskip v (run2a_sound hr hk) fun w ce ch h1 h2 hall => ?_
          unfold stepA at ha
          split at ha
          · obtain ⟨ha2, rfl⟩ := ph_eq ha
            exact pickV_ok hall h2 ha2
          · exact aop2_quiet h1 (und_re hall h2) ha hq
        · rename_i ha
          split at hr
          · rw [foldA_bad] at hr; cases hr
          · rename_i hall
            refine hskip .un (run2a_sound hr hk) fun w ce ch h1 h2 h3 => (hall h3).elim
      · split at hr
        · rename_i hall
          split at hr
          · rename_i hc
            rw [foldA_stop] at hr
            simp only [endS, List.nil_append] at hr
            cases hr
            refine WO2_step fun w ce ch h1 h2 => ?_
            obtain ⟨cargs, q1, q2⟩ := nxt2_call (und_re hall h2) hc
            obtain ⟨n, cv, ch', w', e', h', a1, a2, a3, a4, a5⟩ := hk w ce ch cargs h1 h2 q2
            refine ⟨n, cv, ch', w', e', h', ?_, a2, a3, a4, a5⟩
            simp only [stepOp, guardP_ok h2 hg, hall, q1]
            exact a1
          · rename_i hc
            split at hr
            · rename_i v h1' ha
              refine WO2_step fun w ce ch h1 h2 => ?_
              obtain ⟨cv, ch', w', a1, a2, a3, a4, a5, a6⟩ := aop2_sound h1 (und_re hall h2) ha
              refine ⟨0, cv, ch', w', _, h1', ?_, a2, (h2.mono a4 a5).put a3 d, a6, run2a_sound hr hk⟩
              simp only [stepOp, guardP_ok h2 hg, hall, nxt2_go hc]
              exact a1
            · rw [foldA_bad] at hr; cases hr
          · rw [foldA_bad] at hr; cases hr
        · rename_i hall
          refine WO2_step fun w ce ch h1 h2 => ?_
          refine ⟨0, .tup [], ch, w, _, h, ?_, h1, h2.put (.tup rfl (by intro j; simp)) d, .refl _ _ _ _, run2a_sound hr hk⟩
          simp only [stepOp, guardP_ok h2 hg, hall]
theorem pickB_tt (a b : Bool) : pickB true a b = a := rfl
theorem pickB_ff (a b : Bool) : pickB false a b = b := rfl
def runK2a (ops : List AOp) (kp : List Nat) (e : SE) (h : SH) : Option (SE × SH) :=
  match run2a ops e h with
  | some (e', h', none) => some (kp.map fun s => (s, eg e' s), h')
  | _ => none
theorem W2_runa {ops : List AOp} {kp : List Nat} (hr : runK2a ops kp e h = some (e', h')) (hq : Q .nrm e' h') : W2 T k (.reg ops kp) e h Q := by
  unfold runK2a at hr
  split at hr
  · rename_i h1; cases hr; exact W2_reg (run2a_sound h1 hq)
  · cases hr
theorem W2_runda {ops : List AOp} {kp : List Nat} (hr : runK2a ops kp e h = some (e', h')) (hq : Q .nrm e' h') : W2 T k (.regd ops [] kp) e h Q := by
  unfold runK2a at hr
  split at hr
  · rename_i h1; cases hr; exact W2_regd (run2a_sound h1 hq)
  · cases hr
theorem WO2_fina {l : List AOp} {kp : List Nat} (hr : runK2a l kp e h = some (e', h')) (hq : Q .nrm e' h') : WO2 T k l e h fun e h => Q .nrm (kp.map fun s => (s, eg e s)) h := by
  unfold runK2a at hr
  split at hr
  · rename_i h1; cases hr; exact run2a_sound h1 hq
  · cases hr
theorem W2_t2 {c : AX} {a b : AC} {v : SV} (hv : evs e c = v) (hc : v = .p (.b true)) (ha : W2 T k a e h Q) : W2 T k (.cond c a b) e h Q := W2_true (hv.trans hc) ha
theorem W2_f2 {c : AX} {a b : AC} {v : SV} (hv : evs e c = v) (hc : v = .p (.b false)) (ha : W2 T k b e h Q) : W2 T k (.cond c a b) e h Q := W2_false (hv.trans hc) ha
/-! ### one behind the other, without words between -/
theorem W2_sra {ops : List AOp} {kp : List Nat} {b : AC} (hr : runK2a ops kp e h = some (e', h')) (hb : W2 T k b e' h' Q) : W2 T k (.seq (.reg ops kp) b) e h Q := W2_seq (W2_runa hr hb)
theorem W2_srda {ops : List AOp} {kp : List Nat} {b : AC} (hr : runK2a ops kp e h = some (e', h')) (hb : W2 T k b e' h' Q) : W2 T k (.seq (.regd ops [] kp) b) e h Q := W2_seq (W2_runda hr hb)
theorem W2_sr {ops : List AOp} {kp : List Nat} {b : AC} (hr : runK2 ops kp e h = some (e', h')) (hb : W2 T k b e' h' Q) : W2 T k (.seq (.reg ops kp) b) e h Q := W2_seq (W2_run hr hb)
theorem W2_srd {ops : List AOp} {kp : List Nat} {b : AC} (hr : runK2 ops kp e h = some (e', h')) (hb : W2 T k b e' h' Q) : W2 T k (.seq (.regd ops [] kp) b) e h Q := W2_seq (W2_rund hr hb)
theorem W2_ss {b : AC} (hb : W2 T k b e h Q) : W2 T k (.seq .skip b) e h Q := W2_seq (W2_skip hb)
theorem W2_sret {b : AC} (hq : Q .ret e h) : W2 T k (.seq .ret b) e h Q := W2_seq (W2_ret hq)
theorem W2_sexit {b : AC} {i : Nat} (hq : Q (.ex i) e h) : W2 T k (.seq (.exit i) b) e h Q := W2_seq (W2_exit hq)
theorem W2_sas {a b c : AC} (hb : W2 T k (.seq a (.seq b c)) e h Q) : W2 T k (.seq (.seq a b) c) e h Q := by
  refine ⟨fun w ce ch r1 r2 => ?_⟩
  obtain ⟨n, t, ce', ch', w', e', h', a1, a2⟩ := hb.run w ce ch r1 r2
  refine ⟨n, t, ce', ch', w', e', h', ?_, a2⟩
  simp only [exC] at a1 ⊢
  cases hx : exC (exN T n) n a ce ch with
  | none => rw [hx] at a1; cases a1
  | some x =>
    obtain ⟨t1, ce1, ch1⟩ := x
    rw [hx] at a1
    cases t1 with
    | nrm => exact a1
    | ret => exact a1
    | ex i => exact a1
theorem W2_sct {c : AX} {a b d : AC} {v : SV} (hv : evs e c = v) (hc : v = .p (.b true)) (ha : W2 T k (.seq a d) e h Q) : W2 T k (.seq (.cond c a b) d) e h Q := by
  refine ⟨fun w ce ch r1 r2 => ?_⟩
  have hx := evs_rs r2 c
  rw [hv, hc] at hx
  generalize hz : ev ce c = z at hx
  cases hx with | p hx => cases hx with | b =>
  obtain ⟨n, t, ce', ch', w', e', h', a1, a2⟩ := ha.run w ce ch r1 r2
  exact ⟨n, t, ce', ch', w', e', h', by simp only [exC, hz] at a1 ⊢; exact a1, a2⟩
theorem W2_scf {c : AX} {a b d : AC} {v : SV} (hv : evs e c = v) (hc : v = .p (.b false)) (hb : W2 T k (.seq b d) e h Q) : W2 T k (.seq (.cond c a b) d) e h Q := by
  refine ⟨fun w ce ch r1 r2 => ?_⟩
  have hx := evs_rs r2 c
  rw [hv, hc] at hx
  generalize hz : ev ce c = z at hx
  cases hx with | p hx => cases hx with | b =>
  obtain ⟨n, t, ce', ch', w', e', h', a1, a2⟩ := hb.run w ce ch r1 r2
  exact ⟨n, t, ce', ch', w', e', h', by simp only [exC, hz] at a1 ⊢; exact a1, a2⟩
/-- a look at both cases -/
theorem W2_sc {c : AX} {a b d : AC} {x : Bool} (hv : evs e c = .p (.b x)) (ha : x = true → W2 T k (.seq a d) e h Q) (hb : x = false → W2 T k (.seq b d) e h Q) : W2 T k (.seq (.cond c a b) d) e h Q := by
  cases x
  · exact W2_scf hv rfl (hb rfl)
  · exact W2_sct hv rfl (ha rfl)
/-- a call in a region, then the rest -/
theorem W2_scall {ops : List AOp} {kp : List Nat} {c : AC} {e1 : SE} {h1 : SH} {d : Option Nat} {g : Nat} {args : List SV} {rest : List AOp} (hr : run2a ops e h = some (e1, h1, some ⟨d, g, args, rest⟩))
    (hk : CK T k (fun e h => W2 T k c (kp.map fun s => (s, eg e s)) h Q) e1 h1 (some ⟨d, g, args, rest⟩)) : W2 T k (.seq (.reg ops kp) c) e h Q := W2_seq (W2_reg (run2a_sound hr hk))
theorem W2_scalld {ops : List AOp} {kp : List Nat} {c : AC} {e1 : SE} {h1 : SH} {d : Option Nat} {g : Nat} {args : List SV} {rest : List AOp} (hr : run2a ops e h = some (e1, h1, some ⟨d, g, args, rest⟩))
    (hk : CK T k (fun e h => W2 T k c (kp.map fun s => (s, eg e s)) h Q) e1 h1 (some ⟨d, g, args, rest⟩)) : W2 T k (.seq (.regd ops [] kp) c) e h Q := W2_seq (W2_regd (run2a_sound hr hk))
theorem W2_calla {ops : List AOp} {kp : List Nat} {e1 : SE} {h1 : SH} {d : Option Nat} {g : Nat} {args : List SV} {rest : List AOp} (hr : run2a ops e h = some (e1, h1, some ⟨d, g, args, rest⟩))
    (hk : CK T k (fun e h => Q .nrm (kp.map fun s => (s, eg e s)) h) e1 h1 (some ⟨d, g, args, rest⟩)) : W2 T k (.reg ops kp) e h Q := W2_reg (run2a_sound hr hk)
theorem W2_callda {ops : List AOp} {kp : List Nat} {e1 : SE} {h1 : SH} {d : Option Nat} {g : Nat} {args : List SV} {rest : List AOp} (hr : run2a ops e h = some (e1, h1, some ⟨d, g, args, rest⟩))
    (hk : CK T k (fun e h => Q .nrm (kp.map fun s => (s, eg e s)) h) e1 h1 (some ⟨d, g, args, rest⟩)) : W2 T k (.regd ops [] kp) e h Q := W2_regd (run2a_sound hr hk)
theorem WO2_finw {l : List AOp} {kp : List Nat} {c : AC} (hr : runK2a l kp e h = some (e', h')) (hq : W2 T k c e' h' Q) : WO2 T k l e h fun e h => W2 T k c (kp.map fun s => (s, eg e s)) h Q := by
  unfold runK2a at hr
  split at hr
  · rename_i h1; cases hr; exact run2a_sound h1 hq
  · cases hr
theorem thn2_nrm (hk : K e h) : thn2 K Q .nrm e h := hk
theorem thn2_ret (hq : Q .ret e h) : thn2 K Q .ret e h := hq
theorem thn2_ex {i : Nat} (hq : Q (.ex i) e h) : thn2 K Q (.ex i) e h := hq
theorem blk2_nrm {i : Nat} (hq : Q .nrm e h) : blk2 i Q .nrm e h := hq
theorem blk2_ret {i : Nat} (hq : Q .ret e h) : blk2 i Q .ret e h := hq
theorem blk2_at {i : Nat} (hq : Q .nrm e h) : blk2 i Q (.ex i) e h := by simp only [blk2, if_true]; exact hq
theorem blk2_ex {i j : Nat} (hn : j ≠ i) (hq : Q (.ex j) e h) : blk2 i Q (.ex j) e h := by simp only [blk2]; rw [if_neg hn]; exact hq
def runK2l (ops : List AOp) (kp : List Nat) (e : SE) (h : SH) : Option (SE × SH) :=
  match run2l ops e h with
  | some (e', h', none) => some (kp.map fun s => (s, eg e' s), h')
  | _ => none
theorem runK2l_eq {ops : List AOp} {kp : List Nat} {r : SE × SH} (hr : runK2l ops kp e h = some r) : runK2 ops kp e h = some r := by
  unfold runK2l at hr
  split at hr
  · rename_i h1; simp only [runK2, run2l_eq h1]; exact hr
  · cases hr
theorem W2_srl {ops : List AOp} {kp : List Nat} {b : AC} (hr : runK2l ops kp e h = some (e', h')) (hb : W2 T k b e' h' Q) : W2 T k (.seq (.reg ops kp) b) e h Q := W2_sr (runK2l_eq hr) hb
theorem W2_srdl {ops : List AOp} {kp : List Nat} {b : AC} (hr : runK2l ops kp e h = some (e', h')) (hb : W2 T k b e' h' Q) : W2 T k (.seq (.regd ops [] kp) b) e h Q := W2_srd (runK2l_eq hr) hb
theorem W2_runl {ops : List AOp} {kp : List Nat} (hr : runK2l ops kp e h = some (e', h')) (hq : Q .nrm e' h') : W2 T k (.reg ops kp) e h Q := W2_run (runK2l_eq hr) hq
theorem W2_rundl {ops : List AOp} {kp : List Nat} (hr : runK2l ops kp e h = some (e', h')) (hq : Q .nrm e' h') : W2 T k (.regd ops [] kp) e h Q := W2_rund (runK2l_eq hr) hq
end
theorem cvs_mp {α : Type} (f : Nat → Option Nat) (g : α → PV) (l : List α) : SV.cvs f (l.map fun x => SV.p (g x)) = l.map fun x => SV.p (g x) := by
  induction l with
  | nil => rfl
  | cons a l ih => simp only [List.map_cons, SV.cvs, SV.cv, ih]
theorem frzs_mp {α : Type} (h : SH) (i : Nat) (g : α → PV) (l : List α) : SV.frzs h i (l.map fun x => SV.p (g x)) = l.map fun x => SV.p (g x) := by
  induction l with
  | nil => rfl
  | cons a l ih => simp only [List.map_cons, SV.frzs, SV.frz, ih]
theorem pvs_mp {α : Type} (g : α → PV) (l : List α) : pvs (l.map fun x => SV.p (g x)) = some (l.map g) := by
  induction l with
  | nil => rfl
  | cons a l ih => simp only [List.map_cons, pvs, ih, Option.map_some]
theorem cvs_p (f : Nat → Option Nat) (l : List PV) : SV.cvs f (l.map SV.p) = l.map SV.p := cvs_mp f id l
theorem frzs_p (h : SH) (i : Nat) (l : List PV) : SV.frzs h i (l.map SV.p) = l.map SV.p := frzs_mp h i id l
theorem pvs_p (l : List PV) : pvs (l.map SV.p) = some l := (pvs_mp id l).trans (by rw [List.map_id])
section
variable {T : AT} {k : Nat} {Q : XT → SE → SH → Prop} {e e' : SE} {h h' : SH}
theorem eg_keep (e : SE) (s : Nat) : ∀ (kp : List Nat), eg (kp.map fun s => (s, eg e s)) s = eg e s ∨ eg (kp.map fun s => (s, eg e s)) s = .un
  | [] => .inr rfl
  | a :: kp => by
    simp only [List.map_cons, eg]
    split
    · rename_i h; subst h; exact .inl rfl
    · exact eg_keep e s kp
/-- some slots are forgotten -/
theorem Wk.keep (kp : List Nat) (he : (kp.map fun s => (s, eg e s)) = e') : Wk k e h e' h := fun w ce ch r1 r2 => by
  subst he
  refine ⟨w, r1, fun s => ?_, .refl _ _ _ _⟩
  rcases eg_keep e s kp with h1 | h1
  · rw [h1]; exact r2 s
  · rw [h1]; exact .un
theorem Wk.viewq (σ : List Nat) (hn : σ.Nodup) (hp : pinOk k σ = true) (he : SE.cv (idx σ) e = e') (hh : Ab.view σ h = h') : Wk k e h e' h' := by
  subst he; subst hh; exact Wk.view σ hn hp
/-- a loop: what is known behind a round may be told otherwise, in any way -/
theorem W2_loopw {b : AC} (I : Nat → SE → SH → Prop) (m : Nat) (h0 : I m e h) (hb : ∀ m e h, I m e h → W2 T k b e h (thn2 (fun e' h' => ∃ e2 h2, Wk k e' h' e2 h2 ∧ ∃ m', m' < m ∧ I m' e2 h2) Q)) : W2 T k (.loop b) e h Q := by
  refine W2_loop I m h0 fun m e h hi => (hb m e h hi).post fun t e h hq => ?_
  cases t with
  | nrm =>
    obtain ⟨e2, h2, h3, h4⟩ := hq
    exact ⟨_, _, h3, h4⟩
  | ret => exact ⟨e, h, .refl, hq⟩
  | ex i => exact ⟨e, h, .refl, hq⟩
end
/-! ### equal, cell by cell -/
def andO (b : Bool) (o : Option Bool) : Option Bool :=
  match o with
  | some r => some (b && r)
  | none => if b = true then none else some false
theorem andO_some (b r : Bool) : andO b (some r) = some (b && r) := rfl
theorem aeqs_nil : aeqs [] [] [] = some true := rfl
theorem aeqs_it (ks : List SK) (k : IntKind) (x y : Int) (xs ys : List AV) : aeqs (.it :: ks) (.i k x :: xs) (.i k y :: ys) = andO (decide (x = y)) (aeqs ks xs ys) := by
  simp only [aeqs, sceq, if_true, andO]
  by_cases h : x = y
  · simp only [h, decide_true, if_true]; cases aeqs ks xs ys <;> rfl
  · simp only [h, decide_false]; cases aeqs ks xs ys <;> rfl
theorem aeqs_st (ks : List SK) (x y : List UInt8) (xs ys : List AV) : aeqs (.st :: ks) (.s x :: xs) (.s y :: ys) = andO (decide (x = y)) (aeqs ks xs ys) := by
  simp only [aeqs, sceq, andO]
  by_cases h : x = y
  · simp only [h, decide_true, if_true]; cases aeqs ks xs ys <;> rfl
  · simp only [h, decide_false]; cases aeqs ks xs ys <;> rfl
theorem aeqs_bo (ks : List SK) (x y : Bool) (xs ys : List AV) : aeqs (.bo :: ks) (.b x :: xs) (.b y :: ys) = andO (x == y) (aeqs ks xs ys) := by
  simp only [aeqs, sceq, andO]
  cases x == y <;> cases aeqs ks xs ys <;> rfl
theorem bq_t (b : Bool) : (b == true) = b := by cases b <;> rfl
theorem bq_f (b : Bool) : (b == false) = !b := by cases b <;> rfl
theorem map_take_r {α β : Type} (f : α → β) (l : List α) (n : Nat) : (l.map f).take n = (l.take n).map f := List.map_take.symm
theorem map_drop_r {α β : Type} (f : α → β) (l : List α) (n : Nat) : (l.map f).drop n = (l.drop n).map f := List.map_drop.symm
attribute [go_sem_proc] reduceIte Int.reduceToNat Int.reduceLT Int.reduceLE Nat.reduceLeDiff Nat.reduceLT Nat.reduceSub Nat.reduceAdd Nat.reduceMul Nat.reduceDiv Nat.reduceEqDiff Nat.reduceBEq Int.reduceAdd Int.reduceNeg Int.reduceEq Int.reduceMul Int.reduceSub reduceCtorEq
attribute [go_sem] runK2l run2l stpL endS List.foldl_cons List.foldl_nil guarded2 nxt2 aop2 evs eg epu ph uns cst sc usc abin sbin aeq2 aeqs_nil aeqs_it aeqs_st aeqs_bo andO_some bq_t bq_f scs pvs bindS ld2 ldc ldp bAt st2 SV.cl SV.isUn setg chk2 fa2 ia2 iaa2 sla2 ix2 ixs2 fld2 ext2 bnd2 slc2 sls2 len2 show2 app2 cpy2 clr2 mks2 csts fills2 chunk sptr amins amaxs SV.cv SV.cvs SE.cv B2.cv kills gback idx back_nil SH.cv view lendA SV.frz SV.frzs SE.frz SH.frz B2.frz nilS aress2 ares2 tie2 SV.isTup Option.map_some Option.map_none Option.isSome_some Option.isSome_none Option.isNone_some Option.isNone_none Option.getD_some Option.getD_none List.map_cons List.map_nil List.getElem?_cons_zero List.getElem?_cons_succ List.getElem?_nil List.length_cons List.length_nil List.length_map List.length_append List.length_set List.length_replicate List.set_cons_zero List.set_cons_succ List.drop_zero List.drop_nil List.drop_succ_cons List.take_succ_cons List.take_zero List.take_nil List.take_length List.append_nil List.nil_append List.cons_append List.all_cons List.all_nil List.any_cons List.any_nil Bool.or_false Bool.and_true Bool.true_and Bool.false_and Bool.and_false Bool.false_eq_true and_self if_true if_false Int.toNat_zero Int.toNat_natCast decide_true decide_false bne Bool.not_true Bool.not_false beq_self_eq_true beq_ft beq_tf Int.cast_ofNat_Int true_and and_true Nat.zero_add Nat.le_refl Nat.add_zero Nat.sub_zero Nat.zero_mul Nat.mul_one Nat.one_mul Nat.succ_ne_zero Bool.or_self Nat.lt_irrefl Nat.zero_lt_one Option.some.injEq List.getElem?_map map_take_all map_drop_all Int.natCast_nonneg Int.ofNat_lt cvs_mp frzs_mp pvs_mp cvs_p frzs_p pvs_p back back1 bjoin runK2a run2a stpA guardP gP stepA pickV und eg_und quietOp List.isPrefixOf pickB_t pickB_f pickB_tt pickB_ff id_eq Bool.and_self Bool.true_or Bool.or_true Bool.false_or bytes2_c8 map_take_r map_drop_r
end Go.Proofs.Ytpgoemmjhnnmoaa.Ab
