/- Regions whose order is open: every order does what the order of the text does, if a look at the edges and at what is read says so. -/
import Derived.Test.YtpgoemmjhnnmoaaAbRun
namespace Go.Proofs.Ytpgoemmjhnnmoaa.Ab
open Go
set_option linter.unusedVariables false

/-! ### kinds of operations; what they read -/
inductive KD where
  | pure | reader | alloc | loud
  deriving DecidableEq
def AO.kind : AO → KD
  | .ld _ _ | .lkp _ _ _ _ _ | .len .mp _ | .toStr _ => .reader
  | .alloc _ | .box _ _ | .bsl _ _ _ _ | .mks _ _ _ _ _ | .mkm | .toBytes _ => .alloc
  | .st _ _ _ | .mup _ _ _ _ | .ment _ _ _ _ | .mst _ _ _ | .call _ _ | .callv _ _ | .app _ _ _ _ | .cpy _ _ _ | .del _ _ _ | .clr _ _ _ => .loud
  | _ => .pure
def AX.use : AX → List Nat
  | .t n => [n]
  | .c _ => []
def uses (l : List AX) : List Nat := l.flatMap AX.use
def AO.args : AO → List AX
  | .mv x | .not x | .neg x | .xor x | .toInt _ x | .same x | .toStr x | .toBytes x | .runeStr x | .box _ x | .ld _ x | .chk x | .fa _ x | .fld _ _ x | .ext _ x | .len _ x | .clr _ _ x => [x]
  | .pick c a b => [c, a, b]
  | .bin _ x y | .eq _ _ x y | .st _ x y | .ia _ x y | .iaa _ _ x y | .ix _ _ _ x y | .ixs x y | .lkp _ _ _ x y | .ment _ _ x y | .app _ _ x y | .cpy _ x y | .del _ x y | .mks _ _ _ x y => [x, y]
  | .alloc _ | .mkm => []
  | .build _ ps | .bsl _ _ _ ps => ps.map (·.2.2)
  | .slc _ x lo hi m => x :: (lo.toList ++ hi.toList ++ m.toList)
  | .sls x lo hi | .sla _ _ x lo hi => x :: (lo.toList ++ hi.toList)
  | .mup _ m k v | .mst m k v => [m, k, v]
  | .mkf _ a c => a ++ c
  | .call _ l | .mn l | .mx l => l
  | .callv f l => f :: l
def AOp.reads (x : AOp) : List Nat := uses x.o.args ++ (match x.g with | some (s, _) => [s] | none => [])

theorem fills_congr {e e' : Env} : ∀ {ps : List (Nat × Nat × AX)} {z : List AV}, (∀ x ∈ ps.map (·.2.2), ev e x = ev e' x) → fills e z ps = fills e' z ps
  | [], z, _ => rfl
  | (o, n, x) :: r, z, h => by
    have h0 : ev e x = ev e' x := h x (by simp)
    simp only [fills, h0]
    split
    · split
      · exact fills_congr fun y hy => h y (by simp at hy ⊢; exact .inr hy)
      · rfl
    · rfl
theorem map_congr' {e e' : Env} {l : List AX} (h : ∀ x ∈ l, ev e x = ev e' x) : l.map (ev e) = l.map (ev e') := List.map_congr_left h
theorem opt_congr {e e' : Env} {l : Option AX} (h : ∀ x ∈ l.toList, ev e x = ev e' x) : l.map (ev e) = l.map (ev e') := by
  cases l with
  | none => rfl
  | some x => simp [h x (by simp)]
theorem exOp_congr' {C : CallF} {o : AO} {e e' : Env} {h : AH} (he : ∀ x ∈ o.args, ev e x = ev e' x) : exOp C o e h = exOp C o e' h := by
  cases o <;> simp only [AO.args] at he
  case call f l => simp only [exOp, map_congr' (l := l) he]
  case callv f l => simp only [exOp, map_congr' (l := l) fun x hx => he x (.tail _ hx), he f (.head _)]
  case build z ps => simp only [exOp, aop, fills_congr (z := z) he]
  case bsl a b z ps => simp only [exOp, aop, fills_congr (z := z) he]
  case slc a x lo hi m => simp only [exOp, aop, he x (.head _), opt_congr (l := lo) fun y hy => he y (by simp at hy ⊢; simp [hy]), opt_congr (l := hi) fun y hy => he y (by simp at hy ⊢; simp [hy]), opt_congr (l := m) fun y hy => he y (by simp at hy ⊢; simp [hy])]
  case sls x lo hi => simp only [exOp, aop, he x (.head _), opt_congr (l := lo) fun y hy => he y (by simp at hy ⊢; simp [hy]), opt_congr (l := hi) fun y hy => he y (by simp at hy ⊢; simp [hy])]
  case sla a b x lo hi => simp only [exOp, aop, he x (.head _), opt_congr (l := lo) fun y hy => he y (by simp at hy ⊢; simp [hy]), opt_congr (l := hi) fun y hy => he y (by simp at hy ⊢; simp [hy])]
  case mkf f a c => simp only [exOp, aop, map_congr' (l := a) fun x hx => he x (List.mem_append_left _ hx), map_congr' (l := c) fun x hx => he x (List.mem_append_right _ hx)]
  case mn l => simp only [exOp, aop, map_congr' (l := l) he]
  case mx l => simp only [exOp, aop, map_congr' (l := l) he]
  case alloc z => rfl
  case mkm => rfl
  all_goals (simp only [List.forall_mem_cons] at he; simp only [exOp, aop, he])
theorem stepOp_congr {C : CallF} {x : AOp} {e e' : Env} {h : AH} (he : ∀ n ∈ x.reads, eget e n = eget e' n) : stepOp C x e h = stepOp C x e' h := by
  have h1 : exOp C x.o e h = exOp C x.o e' h := exOp_congr' fun y hy => by
    cases y with
    | t n => exact he n (List.mem_append_left _ (List.mem_flatMap.2 ⟨.t n, hy, by simp [AX.use]⟩))
    | c v => rfl
  have h2 : guarded e x.g = guarded e' x.g := by
    cases hg : x.g with
    | none => rfl
    | some p => simp only [guarded]; rw [he p.1 (by simp [AOp.reads, hg])]
  simp only [stepOp, h1, h2]

theorem map_pair {α : Type} {h h' : AH} {o : Option α} {f : α → AV} {v : AV} (e : (o.map fun x => (f x, h)) = some (v, h')) : h' = h := by cases o <;> simp at e; exact e.2.symm
theorem pure_any {o : AO} {e : Env} {h h' : AH} {v : AV} (hk : o.kind = .pure) (hr : aop o e h = some (v, h')) : h' = h ∧ ∀ h2, aop o e h2 = some (v, h2) := by
  have key : ∀ {q : Option AV}, pureh h q = some (v, h') → h' = h ∧ ∀ h2, pureh h2 q = some (v, h2) := fun hp => by
    obtain ⟨rfl, rfl⟩ := pureh_some hp
    exact ⟨rfl, fun _ => rfl⟩
  cases o <;> simp only [AO.kind] at hk <;> try contradiction
  case mv x => simp only [aop, Option.some.injEq, Prod.mk.injEq] at hr ⊢; exact ⟨hr.2.symm, fun _ => by simp [hr.1]⟩
  case pick c a b => simp only [aop] at hr ⊢; split at hr <;> simp_all
  case len k x =>
    have hl : ∀ h2, alen k (ev e x) h2 = alen k (ev e x) h := fun h2 => by
      cases k
      · cases ev e x <;> rfl
      · cases ev e x <;> rfl
      · simp at hk
    simp only [aop] at hr ⊢
    obtain ⟨h1, rfl⟩ := pureh_some hr
    exact ⟨rfl, fun h2 => by rw [hl h2, h1]; rfl⟩
  all_goals exact key hr
theorem reader_same {o : AO} {e : Env} {h h' : AH} {v : AV} (hk : o.kind = .reader) (hr : aop o e h = some (v, h')) : h' = h := by
  cases o <;> simp only [AO.kind] at hk <;> try contradiction
  case toStr x => simp only [aop] at hr; split at hr; exact (pureh_some hr).2; cases hr
  case ld sz x => simp only [aop, aload] at hr; split at hr; exact map_pair (f := fun x => x) hr; exact map_pair (f := AV.agg) hr; cases hr
  case lkp kk z ok m k =>
    simp only [aop, alookup] at hr
    split at hr
    · split at hr
      · cases hr; rfl
      · cases hr
    · split at hr
      · cases hr
      · split at hr
        · cases hr
        · cases hr; rfl
        · cases hr; rfl
  case len k x => exact (pureh_some hr).2
theorem alloc_any {o : AO} {e : Env} {h h' : AH} {v : AV} (hk : o.kind = .alloc) (hr : aop o e h = some (v, h')) :
    ∃ (B : Blk) (V : Nat → AV), h' = h.alloc B ∧ v = V h.next ∧ (∀ h2, aop o e h2 = some (V h2.next, h2.alloc B)) ∧ ∀ {lk : Lk} {ρ : Rho} {id : Nat} {y : Value}, VE lk ρ (V id) y → ∃ b t, ρ id = some (b, t) := by
  have kp : ∀ {lk : Lk} {ρ : Rho} {id : Nat} {y : Value}, VE lk ρ (.ptr id 0) y → ∃ b t, ρ id = some (b, t) := fun hy => by obtain ⟨b, t, h1, _⟩ := hy.ptr; exact ⟨b, t, h1⟩
  have ks : ∀ {lk : Lk} {ρ : Rho} {id l c lo : Nat} {y : Value}, VE lk ρ (.sl id 0 l c lo) y → ∃ b t, ρ id = some (b, t) := fun hy => by obtain ⟨b, t, _, _, h1, _⟩ := hy.sl; exact ⟨b, t, h1⟩
  have km : ∀ {lk : Lk} {ρ : Rho} {id : Nat} {y : Value}, VE lk ρ (.mp id) y → ∃ b t, ρ id = some (b, t) := fun hy => by obtain ⟨b, t, h1, _⟩ := hy.mp; exact ⟨b, t, h1⟩
  cases o <;> simp only [AO.kind] at hk <;> try contradiction
  case len k x => cases k <;> simp at hk
  case toBytes x =>
    simp only [aop] at hr ⊢
    split at hr
    · split at hr
      · rename_i l hl hlen
        cases hr
        exact ⟨_, fun id => .sl id 0 l.length l.length 1, rfl, rfl, fun h2 => by simp [hlen], ks⟩
      · cases hr
    · cases hr
  case alloc z => cases hr; exact ⟨_, fun id => .ptr id 0, rfl, rfl, fun h2 => rfl, kp⟩
  case box sz x =>
    simp only [aop] at hr ⊢
    split at hr
    · split at hr
      · rename_i cs hcs hl
        cases hr
        exact ⟨_, fun id => .ptr id 0, rfl, rfl, fun h2 => by simp [hl], kp⟩
      · cases hr
    · cases hr
  case bsl esz len z ps =>
    simp only [aop] at hr ⊢
    split at hr
    · split at hr
      · rename_i cs hcs hl
        cases hr
        exact ⟨_, fun id => .sl id 0 len len 0, rfl, rfl, fun h2 => by simp [hl], ks⟩
      · cases hr
    · cases hr
  case mks esz bytes z l c =>
    simp only [aop, amake] at hr ⊢
    split at hr
    · split at hr
      · rename_i l' c' _ _ hif
        cases hr
        exact ⟨_, fun id => .sl id 0 l'.toNat c'.toNat 0, rfl, rfl, fun h2 => by rw [if_pos hif], ks⟩
      · cases hr
    · cases hr
  case mkm => cases hr; exact ⟨_, fun id => .mp id, rfl, rfl, fun h2 => rfl, km⟩

/-! ### the edges -/
def anc1 (A : List Nat) : List Edge → Nat
  | [] => 0
  | e :: r => if Region.binds .any e then (anc1 A r ||| (1 <<< e.on)) ||| A.getD e.on 0 else anc1 A r
def ancs : List Oper → List Nat → List Nat
  | [], A => A
  | o :: r, A => ancs r (A ++ [anc1 A o.after.toList])
def ancOk (A : List Nat) : Nat → List Oper → Bool
  | _, [] => true
  | i, o :: r => (A.getD i 0 == anc1 A o.after.toList) && o.after.toList.all (fun e => Nat.blt e.on i) && ancOk A (i + 1) r
def bit (A : List Nat) (i j : Nat) : Bool := (A.getD i 0).testBit j
theorem anc1_bit {A : List Nat} {j : Nat} : ∀ {es : List Edge}, (anc1 A es).testBit j = true → ∃ e ∈ es, Region.binds .any e = true ∧ (j = e.on ∨ bit A e.on j = true)
  | [], h => by simp [anc1] at h
  | e :: r, h => by
    simp only [anc1] at h
    split at h
    · rename_i hb
      simp only [Nat.testBit_or, Bool.or_eq_true] at h
      rcases h with (h | h) | h
      · obtain ⟨x, h1, h2⟩ := anc1_bit h
        exact ⟨x, .tail _ h1, h2⟩
      · refine ⟨e, .head _, hb, .inl ?_⟩
        rw [Nat.one_shiftLeft, Nat.testBit_two_pow] at h
        simpa using (of_decide_eq_true h).symm
      · exact ⟨e, .head _, hb, .inr h⟩
    · obtain ⟨x, h1, h2⟩ := anc1_bit h
      exact ⟨x, .tail _ h1, h2⟩
theorem ancOk_get {A : List Nat} : ∀ {l : List Oper} {i k : Nat} {o : Oper}, ancOk A i l = true → l[k]? = some o → A.getD (i + k) 0 = anc1 A o.after.toList ∧ ∀ e ∈ o.after.toList, e.on < i + k
  | [], _, _, _, _, h => by simp at h
  | o :: l, i, 0, o', h, hk => by
    simp at hk; subst hk
    simp only [ancOk, Bool.and_eq_true, beq_iff_eq, List.all_eq_true] at h
    exact ⟨h.1.1, fun e he => by simpa [Nat.blt_eq] using h.1.2 e he⟩
  | o :: l, i, k + 1, o', h, hk => by
    simp only [ancOk, Bool.and_eq_true] at h
    have := ancOk_get (i := i + 1) (k := k) h.2 (by simpa using hk)
    rwa [show i + 1 + k = i + (k + 1) by omega] at this
/-- whatever lies ahead of an operation is done when the operation is ready -/
theorem anc_listed {A : List Nat} {ops : Array Oper} (hA : ancOk A 0 ops.toList = true) {L : Nat → Prop}
    (hd : ∀ i o, ops[i]? = some o → L i → ∀ e ∈ o.after, Region.binds .any e = true → L e.on) :
    ∀ (i : Nat) (o : Oper), ops[i]? = some o → (∀ e ∈ o.after, Region.binds .any e = true → L e.on) → ∀ j, bit A i j = true → L j := by
  intro i
  induction i using Nat.strongRecOn with
  | _ i ih =>
    intro o ho hall j hj
    obtain ⟨h1, h2⟩ := ancOk_get (k := i) hA (by simpa using ho)
    rw [Nat.zero_add] at h1 h2
    unfold bit at hj
    rw [h1] at hj
    obtain ⟨e, h3, h4, h5⟩ := anc1_bit hj
    have hl : L e.on := hall e (by simpa using h3) h4
    rcases h5 with rfl | h5
    · exact hl
    · have hlt := h2 e h3
      have hs : i < ops.size := (Array.getElem?_eq_some_iff.1 ho).1
      have ho' : ops[e.on]? = some ops[e.on] := Array.getElem?_eq_getElem (by omega)
      exact ih e.on hlt _ ho' (hd _ _ ho' hl) j h5

/-! ### the look at a region -/
def AOp.hard (x : AOp) : Bool := match x.o.kind with | .alloc | .loud => true | _ => false
def AOp.isLoud (x : AOp) : Bool := match x.o.kind with | .loud => true | _ => false
def AOp.isReader (x : AOp) : Bool := match x.o.kind with | .reader => true | _ => false
def hardAt (xs : List AOp) (k : Nat) : Bool := match xs[k]? with | some x => x.hard | none => false
def pairOk (A : List Nat) (i : Nat) (x : AOp) (k : Nat) (y : AOp) : Bool :=
  (k == i) ||
  ((match y.d with
    | none => true
    | some d => (x.d != some d) && (!(x.reads.contains d) || (Nat.blt k i && bit A i k) || (Nat.blt i k && bit A k i))) &&
   (!x.hard || !y.isLoud || !Nat.blt i k || bit A k i))
def readOk (A : List Nat) (xs : List AOp) (rc : List (Nat × Nat)) (i : Nat) (x : AOp) (p : Nat) : Bool :=
  !x.isReader || !(p == xs.length || hardAt xs p) || (Nat.blt p xs.length && bit A i p) || (List.range p).any (fun k => hardAt xs k && bit A k i) ||
  (List.range xs.length).all (fun k => !(hardAt xs k) || Nat.blt k (min i p) || Nat.ble (max i p) k) || rc.contains (i, p)
def allAt (f : Nat → AOp → Bool) : Nat → List AOp → Bool
  | _, [] => true
  | i, x :: r => f i x && allAt f (i + 1) r
theorem allAt_get {f : Nat → AOp → Bool} : ∀ {l : List AOp} {i k : Nat} {x : AOp}, allAt f i l = true → l[k]? = some x → f (i + k) x = true
  | [], _, _, _, _, h => by simp at h
  | y :: l, i, 0, x, h, hk => by simp at hk; subst hk; simp only [allAt, Bool.and_eq_true] at h; exact h.1
  | y :: l, i, k + 1, x, h, hk => by
    simp only [allAt, Bool.and_eq_true] at h
    have := allAt_get (i := i + 1) (k := k) h.2 (by simpa using hk)
    rwa [show i + 1 + k = i + (k + 1) by omega] at this
def chkRD (P : Program) (lk : Lk) (nt : Nat) (ops : Array Oper) (xs : List AOp) (rc : List (Nat × Nat)) : Bool :=
  chkOps P lk nt ops xs &&
  (match ancs ops.toList [] with
   | A => ancOk A 0 ops.toList && allAt (fun i x => allAt (fun k y => pairOk A i x k y) 0 xs) 0 xs && allAt (fun i x => (List.range (xs.length + 1)).all (readOk A xs rc i x)) 0 xs)

/-! ### the run in the order of the text, by numbers -/
structure Tr (C : CallF) (xs : List AOp) (E : Nat → Env) (H : Nat → AH) (v : Nat → AV) : Prop where
  step : ∀ k x, xs[k]? = some x → stepOp C x (E k) (H k) = some (v k, H (k + 1))
  env : ∀ k x, xs[k]? = some x → E (k + 1) = eput (E k) x.d (v k)
theorem exTr_tr {C : CallF} : ∀ {xs : List AOp} {e : Env} {h : AH} {tr : List (Env × AH × AV)} {e' : Env} {h' : AH}, exTr C xs e h = some (tr, e', h') →
    ∃ E H v, Tr C xs E H v ∧ E 0 = e ∧ H 0 = h ∧ E xs.length = e' ∧ H xs.length = h' ∧ tr.length = xs.length ∧ ∀ k, k < xs.length → tr[k]? = some (E k, H k, v k)
  | [], e, h, tr, e', h', hr => by
    simp [exTr] at hr
    obtain ⟨rfl, rfl, rfl⟩ := hr
    exact ⟨fun _ => e, fun _ => h, fun _ => .un, ⟨fun k x hk => by simp at hk, fun k x hk => by simp at hk⟩, rfl, rfl, rfl, rfl, rfl, fun k hk => by simp at hk⟩
  | x :: xs, e, h, tr, e', h', hr => by
    simp only [exTr] at hr
    split at hr
    · rename_i v h1 hs
      split at hr
      · rename_i tr2 e2 h2 hr2
        cases hr
        obtain ⟨E, H, V, t, a1, a2, a3, a4, a5, a6⟩ := exTr_tr hr2
        refine ⟨fun k => match k with | 0 => e | k + 1 => E k, fun k => match k with | 0 => h | k + 1 => H k, fun k => match k with | 0 => v | k + 1 => V k, ⟨?_, ?_⟩, rfl, rfl, a3, a4, by simp [a5], ?_⟩
        · intro k y hk
          cases k with
          | zero => simp at hk; subst hk; simpa [a2] using hs
          | succ k => exact t.step k y (by simpa using hk)
        · intro k y hk
          cases k with
          | zero => simp at hk; subst hk; simpa using a1
          | succ k => exact t.env k y (by simpa using hk)
        · intro k hk
          cases k with
          | zero => rfl
          | succ k => simpa using a6 k (by simpa using hk)
      · cases hr
    · cases hr
end Go.Proofs.Ytpgoemmjhnnmoaa.Ab
