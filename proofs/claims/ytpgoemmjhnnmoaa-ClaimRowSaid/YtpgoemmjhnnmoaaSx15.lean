/- The second machine: regions whose order is open, with readers that are read again. -/
import Derived.Test.YtpgoemmjhnnmoaaSx14
namespace Go.Proofs.Ytpgoemmjhnnmoaa.Ab
open Go
set_option linter.unusedVariables false
set_option linter.unusedSimpArgs false
/-- of the first states of a trace: block c is as it was; a reader that is marked reads it alone -/
def TrG (c : Nat) (cb : Option Blk) : List Bool → List AOp → List (Env × AH × AV) → Prop
  | b :: fl, o :: ops, x :: tr => (x.2.1.blk c = cb ∧ (b = true → guarded x.1 o.g = some false ∨ guarded x.1 o.g = some true ∧ ∀ ch2 : AH, ch2.blk c = cb → ∃ h2, aop o.o x.1 ch2 = some (x.2.2, h2))) ∧ TrG c cb fl ops tr
  | _, _, _ => True
theorem TrG.get {c : Nat} {cb : Option Blk} : ∀ {fl : List Bool} {ops : List AOp} {tr : List (Env × AH × AV)}, TrG c cb fl ops tr → ∀ {i : Nat} {b : Bool} {o : AOp} {x : Env × AH × AV}, fl[i]? = some b → ops[i]? = some o → tr[i]? = some x →
    x.2.1.blk c = cb ∧ (b = true → guarded x.1 o.g = some false ∨ guarded x.1 o.g = some true ∧ ∀ ch2 : AH, ch2.blk c = cb → ∃ h2, aop o.o x.1 ch2 = some (x.2.2, h2))
  | [], _, _, _, i, _, _, _, h, _, _ => by simp at h
  | _ :: _, [], _, _, i, _, _, _, _, h, _ => by simp at h
  | _ :: _, _ :: _, [], _, i, _, _, _, _, _, h => by simp at h
  | b :: fl, o :: ops, x :: tr, hg, 0, _, _, _, h1, h2, h3 => by
    cases h1; cases h2; cases h3; exact hg.1
  | b :: fl, o :: ops, x :: tr, hg, i + 1, _, _, _, h1, h2, h3 => hg.2.get h1 h2 h3
theorem exTr_len {C : CallF} : ∀ {l : List AOp} {e e' : Env} {h h' : AH} {tr : List (Env × AH × AV)}, exTr C l e h = some (tr, e', h') → tr.length = l.length
  | [], e, e', h, h', tr, hr => by cases hr; rfl
  | o :: l, e, e', h, h', tr, hr => by
    simp only [exTr] at hr
    split at hr
    · split at hr
      · rename_i ht
        cases hr
        simp [exTr_len ht]
      · cases hr
    · cases hr
/-- the readers that are read again are marked, and where they are is among the first states -/
def rcB (n : Nat) (fl : List Bool) (rc : List (Nat × Nat)) : Bool := rc.all fun q => fl[q.1]? == some true && decide (q.2 < fl.length) && decide (q.2 ≤ n) && decide (q.1 < n)
theorem rc_ok {c : Nat} {cb : Option Blk} {fl : List Bool} {ops : List AOp} {tr : List (Env × AH × AV)} {hf : AH} {rc : List (Nat × Nat)} (ht : TrG c cb fl ops tr) (hfin : ops.length < fl.length → hf.blk c = cb) (hl : tr.length = ops.length) (hb : rcB ops.length fl rc = true) : rcOk ops tr hf rc = true := by
  simp only [rcOk, List.all_eq_true]
  intro q hq
  simp only [rcB, List.all_eq_true, Bool.and_eq_true, beq_iff_eq, decide_eq_true_eq] at hb
  obtain ⟨⟨⟨h1, h2⟩, h3⟩, hi⟩ := hb q hq
  have hit : q.1 < tr.length := by omega
  have a1 := List.getElem?_eq_getElem hi
  have a2 := List.getElem?_eq_getElem hit
  obtain ⟨_, g2⟩ := ht.get h1 a1 a2
  have g3 : (((tr[q.2]?).map fun x => x.2.1).getD hf).blk c = cb := by
    by_cases hj : q.2 < tr.length
    · have a3 := List.getElem?_eq_getElem hj
      rw [a3]
      exact (ht.get (List.getElem?_eq_getElem h2) (List.getElem?_eq_getElem (show q.2 < ops.length by omega)) a3).1
    · rw [List.getElem?_eq_none (by omega)]
      exact hfin (by omega)
  simp only [rcOne, a1, a2]
  rcases g2 rfl with g | ⟨g, g4⟩
  · rw [g]
  · obtain ⟨h2', g5⟩ := g4 _ g3
    rw [g, g5]; simp
/-! ### readers -/
def rdB (s : Nat) (P : List Bool) (e : SE) : AO → Bool
  | .ld _ a => match und P (evs e a) with | .ptr id _ => id == s | .ep _ id _ _ => id == s | _ => false
  | .toStr x => match und P (evs e x) with | .sl _ id _ _ _ => id == s | _ => false
  | _ => false
theorem aload_at {sz : Option Nat} {c o : Nat} {ch ch2 ch' : AH} {v : AV} (hb : ch2.blk c = ch.blk c) (h : aload sz (.ptr c o) ch = some (v, ch')) : aload sz (.ptr c o) ch2 = some (v, ch2) := by
  unfold aload at h ⊢
  cases sz with
  | none =>
    simp only [Option.map_eq_some_iff, AH.rd, hb] at h ⊢
    obtain ⟨x, h1, h2⟩ := h
    cases h2
    exact ⟨_, h1, rfl⟩
  | some n =>
    simp only [Option.map_eq_some_iff, AH.rdn, hb] at h ⊢
    obtain ⟨x, h1, h2⟩ := h
    cases h2
    exact ⟨_, h1, rfl⟩
theorem rd_at {w : Wd} {n s c : Nat} {P : List Bool} {e : SE} {ce : Env} {ch ch2 ch' : AH} {o : AO} {v : AV} (hp : P.all id = true) (he : RE w n e ce) (hc : w.ρ s = some c) (hr : rdB s P e o = true) (hb : ch2.blk c = ch.blk c) (h : aop o ce ch = some (v, ch')) :
    ∃ h2, aop o ce ch2 = some (v, h2) := by
  unfold rdB at hr
  split at hr
  · rename_i sz a
    have hx := und_rs hp (evs_rs he a)
    simp only [aop] at h ⊢
    split at hr
    · rename_i id off e1
      rw [e1] at hx
      rw [beq_iff_eq] at hr; subst hr
      generalize ev ce a = z at hx h
      cases hx with | ptr _ h2 => rw [hc] at h2; cases h2; exact ⟨_, aload_at hb h⟩
    · rename_i esz id j t e1
      rw [e1] at hx
      rw [beq_iff_eq] at hr; subst hr
      generalize ev ce a = z at hx h
      cases hx with | ep _ h2 => rw [hc] at h2; cases h2; exact ⟨_, aload_at hb h⟩
    · cases hr
  · rename_i x
    have hx := und_rs hp (evs_rs he x)
    simp only [aop] at h ⊢
    split at hr
    · rename_i esz id off len cap e1
      rw [e1] at hx
      rw [beq_iff_eq] at hr; subst hr
      generalize ev ce x = z at hx h
      cases hx with
      | sl _ h2 =>
        rw [hc] at h2; cases h2
        simp only [ashow, AH.rdn, hb, pureh] at h ⊢
        split at h
        · rename_i q1
          simp only [Option.map_eq_some_iff] at h ⊢
          obtain ⟨y, q2, q3⟩ := h
          cases q3
          exact ⟨_, _, q2, rfl⟩
        · cases h
      | slv _ h2 => rw [hc] at h2; cases h2
    · cases hr
  · cases hr
/-! ### a block that is out of sight -/
section
variable {T : AT} {k : Nat} {w w' : Wd} {h h' : SH} {ch ch' : AH} {s c : Nat} {b : B2}
theorem hid_get {i : Nat} {b : B2} (hi : (h.set s none)[i]? = some (some b)) : i ≠ s ∧ h[i]? = some (some b) := by
  rw [List.getElem?_set] at hi
  split at hi
  · split at hi <;> cases hi
  · rename_i hn; exact ⟨fun e => hn e.symm, hi⟩
theorem RH.hid (r : RH w h ch) (s : Nat) : RH w (h.set s none) ch where
  inj := fun i j b b' c h1 h2 => r.inj i j b b' c (hid_get h1).2 (hid_get h2).2
  lt := fun i c hi => r.lt i c (by simpa using hi)
  nf := fun i b c h1 => r.nf i b c (hid_get h1).2
  fro := r.fro
  blk := fun i b c h1 h2 => by
    rw [List.length_set]
    exact r.blk i b c (hid_get h1).2 h2
  vir := fun i b h1 => r.vir i b (hid_get h1).2
theorem unhid_get {i : Nat} {b' : B2} (hi : (h'.set s (some b))[i]? = some (some b')) : (i = s ∧ b' = b) ∨ (i ≠ s ∧ h'[i]? = some (some b')) := by
  rw [List.getElem?_set] at hi
  split at hi
  · split at hi
    · rename_i e _; cases hi; exact .inl ⟨e.symm, rfl⟩
    · cases hi
  · rename_i hn; exact .inr ⟨fun e => hn e.symm, hi⟩
theorem RH.unhid (r : RH w h ch) (hb : h[s]? = some (some b)) (hc : w.ρ s = some c) (r' : RH w' h' ch') (hl : Le h.length w w') (hn : h.length ≤ h'.length) (f : Fr k w (h.set s none) ch w' h' ch') :
    RH w' (h'.set s (some b)) ch' ∧ Fr k w h ch w' (h'.set s (some b)) ch' ∧ ch'.blk c = ch.blk c := by
  have hs := live_lt hb
  have hcn := r.lv hb hc
  have no : ∀ (i : Nat) b', (h.set s none)[i]? = some (some b') → w.ρ i ≠ some c := fun i b' hi hρ => (hid_get hi).1 (r.inj i s b' b c (hid_get hi).2 hb hρ hc)
  have hblk := f.same c hcn no
  have hρ : w'.ρ s = some c := (hl.ρ s hs).trans hc
  have no' : ∀ (i : Nat) b', i ≠ s → h'[i]? = some (some b') → w'.ρ i ≠ some c := fun i b' hi h1 h2 => by
    rcases f.src i b' c h1 h2 with ⟨j, b0, h3, h4⟩ | h3
    · exact no j b0 h3 h4
    · omega
  refine ⟨⟨?_, ?_, ?_, r'.fro, ?_, ?_⟩, ⟨f.nx, f.fro, f.rl, ?_, ?_, ?_, ?_⟩, hblk⟩
  · intro i j bi bj ci hi hj hci hcj
    rcases unhid_get hi with ⟨rfl, rfl⟩ | ⟨hne, hi'⟩
    · rcases unhid_get hj with ⟨rfl, _⟩ | ⟨hne, hj'⟩
      · rfl
      · rw [hρ] at hci; cases hci; exact (no' j bj hne hj' hcj).elim
    · rcases unhid_get hj with ⟨rfl, _⟩ | ⟨hne', hj'⟩
      · rw [hρ] at hcj; cases hcj; exact (no' i bi hne hi' hci).elim
      · exact r'.inj i j bi bj ci hi' hj' hci hcj
  · intro i ci hi hci
    rw [List.length_set] at hi
    exact r'.lt i ci hi hci
  · intro i bi ci hi hci
    rcases unhid_get hi with ⟨rfl, rfl⟩ | ⟨hne, hi'⟩
    · rw [hρ] at hci; cases hci
      cases hf : w'.fro c with
      | none => rfl
      | some row =>
        rcases f.frz c row hf with h1 | h1 | ⟨j, b0, h1, h2⟩
        · rw [r.nf i _ c hb hc] at h1; cases h1
        · omega
        · exact (no j b0 h1 h2).elim
    · exact r'.nf i bi ci hi' hci
  · intro i bi ci hi hci
    rw [List.length_set]
    rcases unhid_get hi with ⟨rfl, rfl⟩ | ⟨hne, hi'⟩
    · rw [hρ] at hci; cases hci
      obtain ⟨cb, h1, h2⟩ := r.blk i _ c hb hc
      exact ⟨cb, hblk.trans h1, h2.mono hl hn (hl.rl i c hs hc)⟩
    · exact r'.blk i bi ci hi' hci
  · intro i bi hi hci
    rcases unhid_get hi with ⟨rfl, rfl⟩ | ⟨hne, hi'⟩
    · rw [hρ] at hci; cases hci
    · exact r'.vir i bi hi' hci
  · exact fun c0 h1 h2 => f.same c0 h1 fun i b' hi => h2 i b' (hid_get hi).2
  · intro i h1 h2
    have := f.pin i h1 (by rw [List.length_set]; exact h2)
    exact ⟨by rw [List.length_set]; exact this.1, this.2⟩
  · intro i bi ci hi hci
    rcases unhid_get hi with ⟨rfl, rfl⟩ | ⟨hne, hi'⟩
    · rw [hρ] at hci; cases hci; exact .inl ⟨i, bi, hb, hc⟩
    · rcases f.src i bi ci hi' hci with ⟨j, b0, h1, h2⟩ | h1
      · exact .inl ⟨j, b0, (hid_get h1).2, h2⟩
      · exact .inr h1
  · intro i row hf
    rcases f.frz i row hf with h1 | h1 | ⟨j, b0, h1, h2⟩
    · exact .inl h1
    · exact .inr (.inl h1)
    · exact .inr (.inr ⟨j, b0, (hid_get h1).2, h2⟩)
end
/-! ### a region whose first states are looked at -/
structure WOG (T : AT) (k s : Nat) (fl : List Bool) (l : List AOp) (e : SE) (h : SH) (K : SE → SH → Prop) : Prop where
  run : ∀ w ce ch c, RH w h ch → RE w h.length e ce → (∃ b, h[s]? = some (some b)) → w.ρ s = some c → ∃ n tr ce' ch' w' e' h', exTr (exN T n) l ce ch = some (tr, ce', ch') ∧ TrG c (ch.blk c) fl l tr ∧ (l.length < fl.length → ch'.blk c = ch.blk c) ∧ K e' h' ∧ RH w' h' ch' ∧ RE w' h'.length e' ce' ∧ Fr k w h ch w' h' ch'
section
variable {T : AT} {k s : Nat} {Q : XT → SE → SH → Prop} {K : SE → SH → Prop} {e e' : SE} {h h' : SH}
theorem WOG_end {l : List AOp} (r : WO2 T k l e h K) : WOG T k s [] l e h K := ⟨fun w ce ch c h1 h2 _ _ => by
  obtain ⟨n, ce', ch', w', e', h', a1, a2, a3, a4, a5⟩ := r.run w ce ch h1 h2
  obtain ⟨tr, ht⟩ := exOps_tr a1
  exact ⟨n, tr, ce', ch', w', e', h', ht, by cases l <;> trivial, fun hl => by simp at hl, a2, a3, a4, a5⟩⟩
theorem WOG_last {l : List AOp} (r : WO2 T k l e h K) : WOG T k s [false] l e h K := ⟨fun w ce ch c h1 h2 _ _ => by
  obtain ⟨n, ce', ch', w', e', h', a1, a2, a3, a4, a5⟩ := r.run w ce ch h1 h2
  obtain ⟨tr, ht⟩ := exOps_tr a1
  refine ⟨n, tr, ce', ch', w', e', h', ht, ?_, fun hl => ?_, a2, a3, a4, a5⟩
  rotate_left
  · have : l = [] := List.length_eq_zero_iff.1 (by simpa using hl)
    subst this
    cases ht; rfl
  match l, tr, ht with
  | [], _, _ => trivial
  | o :: l, [], _ => trivial
  | o :: l, x :: tr, ht =>
    refine ⟨⟨?_, fun hb => by cases hb⟩, by cases l <;> trivial⟩
    simp only [exTr] at ht
    split at ht
    · split at ht
      · cases ht; rfl
      · cases ht
    · cases ht⟩
theorem WOG_step {fl : List Bool} {b : Bool} {o : AOp} {l : List AOp} (hs : ∀ w ce ch c, RH w h ch → RE w h.length e ce → (∃ b, h[s]? = some (some b)) → w.ρ s = some c → ∃ n cv ch' w' e' h', stepOp (exN T n) o ce ch = some (cv, ch') ∧
      (b = true → guarded ce o.g = some false ∨ guarded ce o.g = some true ∧ ∀ ch2 : AH, ch2.blk c = ch.blk c → ∃ h2, aop o.o ce ch2 = some (cv, h2)) ∧ RH w' h' ch' ∧ RE w' h'.length e' (eput ce o.d cv) ∧ Fr k w h ch w' h' ch' ∧ ch'.blk c = ch.blk c ∧ (∃ b, h'[s]? = some (some b)) ∧ w'.ρ s = some c ∧ WOG T k s fl l e' h' K) :
    WOG T k s (b :: fl) (o :: l) e h K := ⟨fun w ce ch c h1 h2 h3 h4 => by
  obtain ⟨n, cv, ch1, w1, e1, h1', a1, a2, a3, a4, a5, a6, a7, a8, a9⟩ := hs w ce ch c h1 h2 h3 h4
  obtain ⟨m, tr, ce2, ch2, w2, e2, h2', b1, b2, b0, b3, b4, b5, b6⟩ := a9.run w1 _ ch1 c a3 a4 a7 a8
  refine ⟨max n m, (ce, ch, cv) :: tr, ce2, ch2, w2, e2, h2', ?_, ⟨⟨rfl, a2⟩, by rw [← a6]; exact b2⟩, fun hl => (b0 (by simpa using hl)).trans a6, b3, b4, b5, a5.trans b6⟩
  simp only [exTr, stepOp_le (exN_le (Nat.le_max_left n m)) a1]
  rw [exTr_le (exN_le (Nat.le_max_right n m)) b1]⟩
def CKG (T : AT) (k s : Nat) (fl : List Bool) (K : SE → SH → Prop) (e : SE) (h : SH) (p : Stop2) : Prop :=
  ∀ w ce ch c cargs, RH w h ch → RE w h.length e ce → (∃ b, h[s]? = some (some b)) → w.ρ s = some c → P2 (RS w h.length) p.args cargs → ∃ n cv ch' w' e' h', exN T n p.f cargs ch = some (cv, ch') ∧ RH w' h' ch' ∧ RE w' h'.length e' (eput ce p.d cv) ∧ Fr k w h ch w' h' ch' ∧ ch'.blk c = ch.blk c ∧ (∃ b, h'[s]? = some (some b)) ∧ w'.ρ s = some c ∧ WOG T k s fl p.rest e' h' K
inductive St3 where
  | go (e : SE) (h : SH) (fl : List Bool)
  | stop (e : SE) (h : SH) (p : Stop2) (fl : List Bool)
  | bad
def St3.of : St2 → List Bool → St3
  | .go e h, fl => .go e h fl
  | .stop e h p, fl => .stop e h p fl
  | .bad, _ => .bad
def rdrOk (s : Nat) (b : Bool) (op : AOp) (e : SE) : Bool :=
  match b with
  | false => true
  | true => match guardP e op.g with | some P => rdB s P e op.o | none => false
def stpG (s : Nat) (st : St3) (op : AOp) : St3 :=
  match st with
  | .bad => .bad
  | .stop e h p fl => .stop e h ⟨p.d, p.f, p.args, p.rest ++ [op]⟩ fl
  | .go e h fl =>
    match fl with
    | [] => .of (stpA (.go e h) op) []
    | b :: fl =>
      match fl with
      | [] => (match b with | false => .of (stpA (.go e h) op) [] | true => .bad)
      | b2 :: fl =>
        match quietOp op.o with
        | true => (match rdrOk s b op e with | true => .of (stpA (.go e h) op) (b2 :: fl) | false => .bad)
        | false =>
          match b with
          | true => .bad
          | false =>
            match guardP e op.g with
            | none => .bad
            | some P =>
              match P.all id with
              | true =>
                match nxt2 op.o (SE.und P e) with
                | .call f args => .stop e h ⟨op.d, f, args, []⟩ (b2 :: fl)
                | .go =>
                  match aop2 op.o (SE.und P e) (h.set s none), bAt h s with
                  | some (v, h'), some b0 => .go (epu e op.d v) (h'.set s (some b0)) (b2 :: fl)
                  | _, _ => .bad
                | .bad => .bad
              | false => .go (epu e op.d (.tup [])) h (b2 :: fl)
def runG (s : Nat) (l : List AOp) (e : SE) (h : SH) (fl : List Bool) : St3 := l.foldl (stpG s) (.go e h fl)
theorem foldG_stop (e : SE) (h : SH) (fl : List Bool) : ∀ (l : List AOp) (p : Stop2), l.foldl (stpG s) (.stop e h p fl) = .stop e h ⟨p.d, p.f, p.args, p.rest ++ l⟩ fl
  | [], p => by simp
  | o :: l, p => by simp only [List.foldl_cons, stpG]; rw [foldG_stop e h fl l]; simp
theorem foldG_bad : ∀ (l : List AOp), l.foldl (stpG s) .bad = .bad
  | [] => rfl
  | o :: l => by simp only [List.foldl_cons, stpG]; exact foldG_bad l
/-- what is wanted where such a run ends -/
def EndG (T : AT) (k s : Nat) (K : SE → SH → Prop) : St3 → Prop
  | .go e h _ => K e h
  | .stop e h p [] => CK T k K e h (some p)
  | .stop e h p (b :: fl) => CKG T k s (b :: fl) K e h p
  | .bad => False
/-- behind the states that are looked at the run is as ever -/
theorem foldG_nil : ∀ (l : List AOp) (st : St2), l.foldl (stpG s) (.of st []) = .of (l.foldl stpA st) []
  | [], st => rfl
  | o :: l, st => by
    rw [List.foldl_cons, List.foldl_cons, ← foldG_nil l]
    cases st <;> rfl
theorem runA_end {l : List AOp} {st : St2} {e : SE} {h : SH} (hr : l.foldl stpA (.go e h) = st) (hk : EndG T k s K (.of st [])) : WO2 T k l e h K := by
  cases st with
  | go e' h' => exact run2a_sound (e' := e') (h' := h') (s := none) (by simp only [run2a, hr, endS]) hk
  | stop e' h' p => exact run2a_sound (e' := e') (h' := h') (s := some p) (by simp only [run2a, hr, endS]) hk
  | bad => exact hk.elim
theorem quiet_heap {o : AO} {e : SE} {h h' : SH} {v : SV} (ho : aop2 o e h = some (v, h')) (hq : quietOp o = true) : h' = h := by
  cases o <;> first | (simp [quietOp] at hq; done) | exact (ph_eq ho).2 | skip
  · cases ho; rfl
  · simp only [aop2] at ho; split at ho <;> cases ho <;> rfl
theorem stpA_quiet {d : Option Nat} {g : Option (Nat × Bool)} {o : AO} (hq : quietOp o = true) : stpA (.go e h) ⟨d, g, o⟩ = .bad ∨ ∃ v, stpA (.go e h) ⟨d, g, o⟩ = .go (epu e d v) h ∧
    ∀ w ce ch, RH w h ch → RE w h.length e ce → ∃ cv, (∀ C, stepOp C ⟨d, g, o⟩ ce ch = some (cv, ch)) ∧ RS w h.length v cv := by
  have hnc : ∀ C ce ch, exOp C o ce ch = aop o ce ch := fun C ce ch => by cases o <;> first | rfl | (simp [quietOp] at hq; done)
  have hng : nxt2 o e = .go := by cases o <;> first | rfl | (simp [quietOp] at hq; done)
  have key : ∀ (P : List Bool) v h', stepA P o e h = some (v, h') → h' = h ∧ ∀ w ce ch, RH w h ch → RE w h.length e ce → P.all id = true → ∃ cv, aop o ce ch = some (cv, ch) ∧ RS w h.length v cv := fun P v h' ha => by
    unfold stepA at ha
    split at ha
    · obtain ⟨ha2, rfl⟩ := ph_eq ha
      exact ⟨rfl, fun w ce ch h1 h2 hp => pickV_ok hp h2 ha2⟩
    · exact ⟨quiet_heap ha hq, fun w ce ch h1 h2 hp => aop2_quiet h1 (und_re hp h2) ha hq⟩
  cases hg : guardP e g with
  | none => exact .inl (by simp only [stpA, hg])
  | some P =>
    cases P with
    | nil =>
      cases ha : stepA [] o e h with
      | none => exact .inl (by simp only [stpA, hg, hng, ha])
      | some x =>
        obtain ⟨v, h'⟩ := x
        obtain ⟨rfl, hk⟩ := key [] v h' ha
        refine .inr ⟨v, by simp only [stpA, hg, hng, ha], fun w ce ch h1 h2 => ?_⟩
        obtain ⟨cv, a1, a2⟩ := hk w ce ch h1 h2 rfl
        exact ⟨cv, fun C => by simp only [stepOp, guardP_ok h2 hg, List.all_nil, hnc]; exact a1, a2⟩
    | cons b P =>
      have hskip : ∀ v, (∀ w ce ch, RH w h ch → RE w h.length e ce → (b :: P).all id = true → ∃ cv, aop o ce ch = some (cv, ch) ∧ RS w h.length v cv) → ∀ w ce ch, RH w h ch → RE w h.length e ce → ∃ cv, (∀ C, stepOp C ⟨d, g, o⟩ ce ch = some (cv, ch)) ∧ RS w h.length (.alt (b :: P) v) cv := fun v hv w ce ch h1 h2 => by
        cases hall : (b :: P).all id with
        | true =>
          obtain ⟨cv, a1, a2⟩ := hv w ce ch h1 h2 hall
          exact ⟨cv, fun C => by simp only [stepOp, guardP_ok h2 hg, hall, hnc]; exact a1, .altT hall a2⟩
        | false => exact ⟨.tup [], fun C => by simp only [stepOp, guardP_ok h2 hg, hall], .altF hall⟩
      cases ha : stepA (b :: P) o e h with
      | none =>
        cases hall : (b :: P).all id with
        | true => exact .inl (by simp only [stpA, hg, hq, ha, hall, if_true])
        | false => exact .inr ⟨.alt (b :: P) .un, by simp only [stpA, hg, hq, ha, hall, if_true]; simp, hskip .un fun w ce ch h1 h2 h3 => by rw [hall] at h3; cases h3⟩
      | some x =>
        obtain ⟨v, h'⟩ := x
        obtain ⟨rfl, hk⟩ := key _ v h' ha
        exact .inr ⟨.alt (b :: P) v, by simp only [stpA, hg, hq, ha, if_true], hskip v hk⟩
theorem runG_sound : ∀ {l : List AOp} {e : SE} {h : SH} {fl : List Bool}, EndG T k s K (runG s l e h fl) → WOG T k s fl l e h K
  | l, e, h, [], hk => by
    refine WOG_end (runA_end (s := s) rfl ?_)
    rw [runG, show St3.go e h [] = .of (.go e h) [] from rfl, foldG_nil] at hk
    exact hk
  | [], e, h, b :: fl, hk => ⟨fun w ce ch c h1 h2 _ _ => ⟨0, [], ce, ch, w, e, h, rfl, trivial, fun _ => rfl, hk, h1, h2, .refl _ _ _ _⟩⟩
  | o :: l, e, h, [b], hk => by
    cases b with
    | true => simp only [runG, List.foldl_cons, stpG, foldG_bad] at hk; exact hk.elim
    | false =>
      refine WOG_last (runA_end (s := s) rfl ?_)
      simp only [runG, List.foldl_cons, stpG] at hk
      rw [foldG_nil] at hk
      rw [List.foldl_cons]; exact hk
  | ⟨d, g, o⟩ :: l, e, h, b :: b2 :: fl, hk => by
    simp only [runG, List.foldl_cons, stpG] at hk
    split at hk
    · rename_i hq
      split at hk
      · rename_i hrd
        rcases stpA_quiet (e := e) (h := h) (d := d) (g := g) hq with hb | ⟨v, hb, hv⟩
        · rw [hb] at hk
          simp only [St3.of, foldG_bad] at hk; exact hk.elim
        · rw [hb] at hk
          refine WOG_step fun w ce ch c h1 h2 h3 h4 => ?_
          obtain ⟨cv, a1, a2⟩ := hv w ce ch h1 h2
          refine ⟨0, cv, ch, w, _, h, a1 _, fun hbt => ?_, h1, h2.put a2 d, .refl _ _ _ _, rfl, h3, h4, runG_sound hk⟩
          subst hbt
          simp only [rdrOk] at hrd
          split at hrd
          · rename_i P hg
            have hgc := guardP_ok h2 hg
            cases hall : P.all id with
            | false => exact .inl (hgc.trans (by rw [hall]))
            | true =>
              rw [hall] at hgc
              have a1 := a1 (fun _ _ _ => none)
              simp only [stepOp, hgc] at a1
              have hnc : exOp (fun _ _ _ => none) o ce ch = aop o ce ch := by cases o <;> first | rfl | (simp [quietOp] at hq; done)
              rw [hnc] at a1
              exact .inr ⟨hgc, fun ch2 h5 => rd_at hall h2 h4 hrd h5 a1⟩
          · cases hrd
      · rw [foldG_bad] at hk; exact hk.elim
    · rename_i hq
      split at hk
      · rw [foldG_bad] at hk; exact hk.elim
      · split at hk
        · rw [foldG_bad] at hk; exact hk.elim
        · rename_i P hg
          split at hk
          · rename_i hall
            split at hk
            · rename_i hc
              rw [foldG_stop] at hk
              refine WOG_step fun w ce ch c h1 h2 h3 h4 => ?_
              obtain ⟨cargs, q1, q2⟩ := nxt2_call (und_re hall h2) hc
              obtain ⟨n, cv, ch', w', e', h', a1, a2, a3, a4, a5, a6, a7, a8⟩ := hk w ce ch c cargs h1 h2 h3 h4 q2
              refine ⟨n, cv, ch', w', e', h', ?_, (by intro h; cases h), a2, a3, a4, a5, a6, a7, by simpa using a8⟩
              simp only [stepOp, guardP_ok h2 hg, hall, q1]
              exact a1
            · rename_i hc
              split at hk
              · rename_i v h1' b0 ha hb0
                refine WOG_step fun w ce ch c h1 h2 h3 h4 => ?_
                have hs := bAt_eq hb0
                obtain ⟨cv, ch', w', a1, a2, a3, a4, a5, a6⟩ := aop2_sound (k := k) (h1.hid s) (by rw [List.length_set]; exact und_re hall h2) ha
                rw [List.length_set] at a4 a5
                obtain ⟨b1, b2, b3⟩ := h1.unhid hs h4 a2 a4 a5 a6
                refine ⟨0, cv, ch', w', _, _, ?_, (by intro h; cases h), b1, ?_, b2, b3, ⟨b0, ?_⟩, (a4.ρ s (live_lt hs)).trans h4, runG_sound hk⟩
                · simp only [stepOp, guardP_ok h2 hg, hall, nxt2_go hc]
                  exact a1
                · rw [List.length_set]; exact (h2.mono a4 a5).put a3 d
                · rw [List.getElem?_set_self (by have := live_lt hs; omega)]
              · rw [foldG_bad] at hk; exact hk.elim
            · rw [foldG_bad] at hk; exact hk.elim
          · rename_i hall
            refine WOG_step fun w ce ch c h1 h2 h3 h4 => ?_
            refine ⟨0, .tup [], ch, w, _, h, ?_, (by intro h; cases h), h1, h2.put (.tup rfl (by intro j; simp)) d, .refl _ _ _ _, rfl, h3, h4, runG_sound hk⟩
            simp only [stepOp, guardP_ok h2 hg, hall]
theorem W2_regG {ops : List AOp} {rc : List (Nat × Nat)} {kp : List Nat} (s : Nat) (fl : List Bool) (hb : rcB ops.length fl rc = true) (hs : (bAt h s).isSome = true) (hv : ∀ esz, bAt h s ≠ some (.arr esz [])) {st : St3} (hr : runG s ops e h fl = st)
    (hk : EndG T k s (fun e' h' => Q .nrm (kp.map fun s => (s, eg e' s)) h') st) : W2 T k (.regd ops rc kp) e h Q := by
  subst hr
  refine ⟨fun w ce ch h1 h2 => ?_⟩
  obtain ⟨b, hs⟩ := Option.isSome_iff_exists.1 hs
  have hsb := bAt_eq hs
  cases hc : w.ρ s with
  | none =>
    obtain ⟨esz, rfl⟩ := h1.vir s b hsb hc
    exact (hv esz hs).elim
  | some c =>
    obtain ⟨n, tr, ce1, ch1, w1, e1, h1', a1, a2, a0, a3, a4, a5, a6⟩ := (runG_sound hk).run w ce ch c h1 h2 ⟨b, hsb⟩ hc
    exact ⟨n, .nrm, _, ch1, w1, _, h1', by simp only [exC, a1, rc_ok a2 a0 (exTr_len a1) hb, if_true], a3, a4, keep2 a5 kp, a6⟩
theorem W2_sregG {ops : List AOp} {rc : List (Nat × Nat)} {kp : List Nat} {c : AC} (s : Nat) (fl : List Bool) (hb : rcB ops.length fl rc = true) (hs : (bAt h s).isSome = true) (hv : ∀ esz, bAt h s ≠ some (.arr esz [])) {st : St3} (hr : runG s ops e h fl = st)
    (hk : EndG T k s (fun e' h' => W2 T k c (kp.map fun s => (s, eg e' s)) h' Q) st) : W2 T k (.seq (.regd ops rc kp) c) e h Q := W2_seq (W2_regG s fl hb hs hv hr hk)
theorem WOG_go {l : List AOp} {fl : List Bool} {st : St3} (hr : runG s l e h fl = st) (hk : EndG T k s K st) : WOG T k s fl l e h K := by subst hr; exact runG_sound hk
theorem EG_ck {p : Stop2} (hk : CK T k K e h (some p)) : EndG T k s K (.stop e h p []) := hk
theorem EG_go {fl : List Bool} (hk : K e h) : EndG T k s K (.go e h fl) := hk
theorem back_out {σ : List Nat} {k' : Nat} {h1 : SH} {b : B2} (hi : idx σ s = none) (hb : h[s]? = some (some b)) : ∃ b', (back σ k' h h1)[s]? = some (some b') := by
  have : ∀ (l : SH) (i j : Nat), idx σ (i + j) = none → l[j]? = some (some b) → (back1 σ k' h.length h1 i l)[j]? = some (some (b.cv (kills (σ.drop k')))) := fun l => by
    induction l with
    | nil => intro i j _ hj; simp at hj
    | cons x l ih =>
      intro i j hx hj
      cases j with
      | zero =>
        simp at hj
        subst hj
        simp only [Nat.add_zero] at hx
        simp only [back1, hx, List.getElem?_cons_zero, Option.map_some]
      | succ j =>
        simp only [back1, List.getElem?_cons_succ]
        exact ih (i + 1) j (by rw [← hx]; congr 1; omega) (by simpa using hj)
  refine ⟨b.cv (kills (σ.drop k')), ?_⟩
  have h2 := this h 0 s (by simpa using hi) hb
  unfold back
  rw [List.getElem?_append_left (List.getElem?_eq_some_iff.1 h2).1]
  exact h2
/-- a call that doesn't reach the block that is looked at -/
theorem EG_call {k' : Nat} {d : Option Nat} {g : Nat} {args : List SV} {rest : List AOp} {args0 : List SV} {h0 : SH} {R : SV → SH → Prop} {b : Bool} {fl : List Bool} (σ : List Nat) (spec : Ret2 T k' g args0 h0 R) (hn : σ.Nodup) (hσ : ∀ x ∈ σ, x < h.length) (hp : pinsOk k k' σ = true) (hi : idx σ s = none)
    (ha : SV.cvs (idx σ) args = args0) (hh : view σ h = h0) (hk : ∀ v h', R v h' → WOG T k s (b :: fl) rest (epu (e.cv (kills (σ.drop k'))) d (v.cv (gback σ h.length))) (back σ k' h h') K) :
    EndG T k s K (.stop e h ⟨d, g, args, rest⟩ (b :: fl)) := by
  subst ha
  subst hh
  intro w ce ch c cargs r he ⟨b0, hb0⟩ hc hargs
  obtain ⟨n, cv, ch1, w1, v, h1, b1, b2, b3, b4, b5⟩ := spec.run (w.vw σ h.length) cargs ch (r.view hn) (hargs.cv view_cv)
  obtain ⟨c1, c2, c3, c4⟩ := r.back hn b3 b5 hp hσ
  refine ⟨n, cv, ch1, _, _, _, b1, c1, (he.cv c3).put (b4.cv c2) d, c4, ?_, back_out hi hb0, ?_, hk v h1 b2⟩
  · refine b5.same c (r.lv hb0 hc) fun j b hj hρ => ?_
    obtain ⟨i, b1, a1, a2, rfl⟩ := view_get hj
    rw [vw_ρ a1 (live_lt a2)] at hρ
    have := r.inj i s _ _ c a2 hb0 hρ hc
    subst this
    rw [idx_of hn a1] at hi; cases hi
  · simp only [Wd.bk, hi]; rw [if_pos (live_lt hb0)]; exact hc
theorem EG_pure {k' : Nat} {d : Option Nat} {g : Nat} {args : List SV} {rest : List AOp} {args0 : List SV} {R : SV → SH → Prop} {b : Bool} {fl : List Bool} (spec : Ret2 T k' g args0 [] R) (ha : SV.cvs (idx []) args = args0)
    (hk : ∀ v h', R v h' → WOG T k s (b :: fl) rest (epu e d (v.cv (gback [] h.length))) (h ++ SH.cv (gback [] h.length) h') K) : EndG T k s K (.stop e h ⟨d, g, args, rest⟩ (b :: fl)) := by
  refine EG_call [] spec List.nodup_nil (by simp) (by simp [pinsOk]) rfl ha rfl fun v h' hr => ?_
  have := hk v h' hr
  rw [back_nil]
  rw [show e.cv (kills (List.drop k' [])) = e from by rw [List.drop_nil]; exact cve_all kills_nil e]
  exact this
/-- what is handed over stays for good -/
theorem CK_frz {d : Option Nat} {g : Nat} {args args' : List SV} {rest : List AOp} (id : Nat) (hl : (bAt h id).isSome = true) (ha : SV.frzs h id args = args') (he : SE.frz h id e = e') (hh : SH.frz id h = h') (hk : CK T k K e' h' (some ⟨d, g, args', rest⟩)) :
    CK T k K e h (some ⟨d, g, args, rest⟩) := by
  subst ha; subst he; subst hh
  intro w ce ch cargs r he hargs
  obtain ⟨w', f, r', f'⟩ := frz_world (k := k) id hl r
  obtain ⟨n, cv, ch1, w1, e1, h1, a1, a2, a3, a4, a5⟩ := hk w' ce ch cargs r' (by rw [frz_len]; exact he.frz f) (by rw [frz_len]; exact hargs.frz f)
  exact ⟨n, cv, ch1, w1, e1, h1, a1, a2, a3, f'.trans a4, a5⟩
theorem WOG_frz {l : List AOp} {fl : List Bool} (id : Nat) (hl : (bAt h id).isSome = true) (hne : s ≠ id) (he : SE.frz h id e = e') (hh : SH.frz id h = h') (hk : WOG T k s fl l e' h' K) : WOG T k s fl l e h K := by
  subst he; subst hh
  refine ⟨fun w ce ch c r1 r2 ⟨b, hb⟩ hc => ?_⟩
  obtain ⟨w', f, r', f'⟩ := frz_world (k := k) id hl r1
  have hb' : (SH.frz id h)[s]? = some (some (b.frz h id)) := by
    rw [SH.frz, List.getElem?_set_ne (fun e => hne e.symm), List.getElem?_map, hb]; rfl
  obtain ⟨n, tr, ce', ch', w2, e2, h2, a1, a2, a3, a4, a5, a6, a7⟩ := hk.run w' ce ch c r' (by rw [frz_len]; exact r2.frz f) ⟨_, hb'⟩ (by rw [f.ρ]; exact hc)
  exact ⟨n, tr, ce', ch', w2, e2, h2, a1, a2, a3, a4, a5, a6, f'.trans a7⟩
theorem WO2_wk {l : List AOp} (a : Wk k e h e' h') (b : WO2 T k l e' h' K) : WO2 T k l e h K := by
  refine ⟨fun w ce ch r1 r2 => ?_⟩
  obtain ⟨w', a1, a2, a3⟩ := a w ce ch r1 r2
  obtain ⟨n, ce2, ch2, w2, e2, h2, b1, b2, b3, b4, b5⟩ := b.run w' ce ch a1 a2
  exact ⟨n, ce2, ch2, w2, e2, h2, b1, b2, b3, b4, a3.trans b5⟩
theorem WO2_frz {l : List AOp} (id : Nat) (hl : (bAt h id).isSome = true) (he : SE.frz h id e = e') (hh : SH.frz id h = h') (hk : WO2 T k l e' h' K) : WO2 T k l e h K := by
  subst he; subst hh
  exact WO2_wk (Wk.frz id hl) hk
/-- a fact that is told -/
theorem always2 {f : Nat} (hT : T f = some (.spec (always (.b true)))) : Ret2 T 0 f [] [] (fun v h' => v = .b true ∧ h' = []) :=
  Ret2_spec hT (v := .b true) (fun w cargs hp => by
    have : cargs = [] := List.length_eq_zero_iff.1 hp.1.symm
    subst this
    exact ⟨.b true, rfl, .p (.b _)⟩) ⟨rfl, rfl⟩
end
attribute [go_sem] runG stpG St3.of rdrOk rdB Bool.not_eq_true
end Go.Proofs.Ytpgoemmjhnnmoaa.Ab
