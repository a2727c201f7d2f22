/- Regions whose order is open: the law. -/
import Derived.Test.YtpgoemmjhnnmoaaAbDraw2
namespace Go.Proofs.Ytpgoemmjhnnmoaa.Ab
open Go
set_option linter.unusedVariables false
section
variable {P : Program} {lk : Lk} {nt : Nat} {C : CallF} {xs : List AOp} {E : Nat → Env} {H : Nat → AH} {v : Nat → AV} {ρ0 : Rho} {h0 : AH} {w0 : World}

theorem quiet_same {x : AOp} {e : Env} {h h' : AH} {u : AV} (hq : x.hard = false) (hr : stepOp C x e h = some (u, h')) : h' = h := by
  unfold stepOp at hr
  split at hr
  · have hk : x.o.kind = .pure ∨ x.o.kind = .reader := by
      unfold AOp.hard at hq
      cases hx : x.o.kind <;> simp_all
    have ha : aop x.o e h = some (u, h') := by
      unfold exOp at hr
      split at hr
      · simp_all [AO.kind]
      · simp_all [AO.kind]
      · exact hr
    rcases hk with hk | hk
    · exact (pure_any hk ha).1
    · exact reader_same hk ha
  · cases hr; rfl
  · cases hr
theorem skip_same {x : AOp} {e : Env} {h h' : AH} {u : AV} (hg : guarded e x.g = some false) (hr : stepOp C x e h = some (u, h')) : h' = h ∧ u = .tup [] := by
  simp only [stepOp, hg] at hr
  cases hr
  exact ⟨rfl, rfl⟩
theorem step_guard {x : AOp} {e : Env} {h h' : AH} {u : AV} (hr : stepOp C x e h = some (u, h')) : guarded e x.g = some true ∨ guarded e x.g = some false := by
  unfold stepOp at hr
  split at hr
  · rename_i h; exact .inl h
  · rename_i h; exact .inr h
  · cases hr
theorem exOp_aop {o : AO} {e : Env} {h : AH} (hk : o.kind ≠ .loud) : exOp C o e h = aop o e h := by
  cases o <;> first | rfl | simp [AO.kind] at hk

theorem Tr.same (T : Tr C xs E H v) {i j : Nat} (hij : i ≤ j) (hj : j ≤ xs.length) (hn : ∀ k x, xs[k]? = some x → i ≤ k → k < j → x.hard = false) : H j = H i := by
  induction j with
  | zero => have : i = 0 := by omega
            subst this; rfl
  | succ j ih =>
    rcases Nat.lt_or_ge i (j + 1) with h | h
    · have hx : xs[j]? = some xs[j] := List.getElem?_eq_getElem (by omega)
      rw [quiet_same (hn j _ hx (by omega) (by omega)) (T.step j _ hx)]
      exact ih (by omega) (by omega) fun k x hk h1 h2 => hn k x hk h1 (by omega)
    · have : i = j + 1 := by omega
      rw [this]
theorem Tr.mono (cs : CSound P lk C) (T : Tr C xs E H v) (i j : Nat) (hij : i ≤ j) (hj : j ≤ xs.length) : (H i).next ≤ (H j).next := by
  induction j with
  | zero => have : i = 0 := by omega
            subst this; exact Nat.le_refl _
  | succ j ih =>
    rcases Nat.lt_or_ge i (j + 1) with h | h
    · have hx : xs[j]? = some xs[j] := List.getElem?_eq_getElem (by omega)
      exact Nat.le_trans (ih (by omega) (by omega)) (stepOp_nx cs (T.step j _ hx))
    · have : i = j + 1 := by omega
      rw [this]; exact Nat.le_refl _
/-- each slot is written once -/
def Dist (xs : List AOp) : Prop := ∀ (i k : Nat) (x y : AOp) (d : Nat), xs[i]? = some x → xs[k]? = some y → k ≠ i → y.d = some d → x.d ≠ some d
theorem Tr.et1 (T : Tr C xs E H v) (hd : Dist xs) {k : Nat} {y : AOp} {d : Nat} (hk : xs[k]? = some y) (hy : y.d = some d) : ∀ j, k < j → j ≤ xs.length → eget (E j) d = v k := by
  intro j
  induction j with
  | zero => intro h; omega
  | succ j ih =>
    intro h1 h2
    have hx : xs[j]? = some xs[j] := List.getElem?_eq_getElem (by omega)
    rw [T.env j _ hx]
    by_cases e : k = j
    · subst e
      rw [hk] at hx
      cases hx
      simp [hy, eput, eget]
    · have := hd j k _ _ d hx hk e hy
      cases hxd : (xs[j]'(by omega)).d with
      | none => exact ih (by omega) (by omega)
      | some d' =>
        have hne : d' ≠ d := fun h => this (by rw [hxd, h])
        simp only [eput, eget, hne, if_false]
        exact ih (by omega) (by omega)
theorem Tr.et2 (T : Tr C xs E H v) {d : Nat} : ∀ j, j ≤ xs.length → (∀ k y, xs[k]? = some y → k < j → y.d ≠ some d) → eget (E j) d = eget (E 0) d := by
  intro j
  induction j with
  | zero => intros; rfl
  | succ j ih =>
    intro h1 h2
    have hx : xs[j]? = some xs[j] := List.getElem?_eq_getElem (by omega)
    rw [T.env j _ hx]
    have := h2 j _ hx (by omega)
    cases hxd : (xs[j]'(by omega)).d with
    | none => exact ih (by omega) fun k y hk hl => h2 k y hk (by omega)
    | some d' =>
      have hne : d' ≠ d := fun h => this (by rw [hxd, h])
      simp only [eput, eget, hne, if_false]
      exact ih (by omega) fun k y hk hl => h2 k y hk (by omega)

variable {L : Nat → Prop} {ρ : Rho} {p : Nat} {eS : Env} {a : Act} {w : World}
theorem Inv.norm (cs : CSound P lk C) (T : Tr C xs E H v) : ∀ (n p : Nat), xs.length - p = n → Inv lk nt xs E H v ρ0 h0 w0 L ρ p eS a w →
    ∃ p', Inv lk nt xs E H v ρ0 h0 w0 L ρ p' eS a w ∧ ∀ x, xs[p']? = some x → x.hard = true ∧ ¬ L p' := by
  intro n
  induction n with
  | zero =>
    intro p hp I
    refine ⟨p, I, fun x hx => ?_⟩
    have := (List.getElem?_eq_some_iff.1 hx).1
    omega
  | succ n ih =>
    intro p hp I
    have hlt : p < xs.length := by omega
    have hx : xs[p]? = some xs[p] := List.getElem?_eq_getElem hlt
    have hs := T.step p _ hx
    generalize xs[p] = x at hx hs
    by_cases hh : x.hard = true
    · by_cases hL : L p
      · have hnl : x.isLoud = false := by
          cases hl : x.isLoud with
          | false => rfl
          | true => exact (I.back p x hx (Nat.le_refl _) hl hL).elim
        have hk : x.o.kind = .alloc := by
          unfold AOp.hard at hh; unfold AOp.isLoud at hnl
          cases hk : x.o.kind <;> simp_all
        rcases step_guard hs with hg | hg
        · exact ih (p + 1) (by omega) (I.take (T.mono cs) ⟨x, hx, Nat.le_refl _, hL, hk, hg⟩)
        · refine ih (p + 1) (by omega) (I.pass hlt (skip_same hg hs).1 (fun _ _ _ => hL) ?_)
          rintro ⟨y, y1, _, _, _, y5⟩
          rw [hx] at y1
          cases y1
          rw [hg] at y5
          cases y5
      · exact ⟨p, I, fun y hy => by rw [hx] at hy; cases hy; exact ⟨hh, hL⟩⟩
    · have hq : x.hard = false := by simpa using hh
      refine ih (p + 1) (by omega) (I.pass hlt (quiet_same hq hs) (fun y hy hyh => ?_) ?_)
      · rw [hx] at hy; cases hy; exact (hh hyh).elim
      · rintro ⟨y, y1, _, _, y4, _⟩
        rw [hx] at y1
        cases y1
        simp [AOp.hard, y4] at hq

/-- an operation that is ready -/
theorem Inv.go (cs : CSound P lk C) (T : Tr C xs E H v) {ops : Array Oper} {A : List Nat} (hc : chkOps P lk nt ops xs = true) (hA : ancOk A 0 ops.toList = true)
    (hpair : ∀ i k x y, xs[i]? = some x → xs[k]? = some y → pairOk A i x k y = true)
    (hread : ∀ i x q, xs[i]? = some x → q ≤ xs.length → x.isReader = true → guarded (E i) x.g = some true →
      (q = xs.length ∨ hardAt xs q = true) → (q < xs.length → bit A i q = false) → (∀ k, k < q → hardAt xs k = true → bit A k i = false) → ∃ h', aop x.o (E i) (H q) = some (v i, h'))
    (hdn : ∀ i o, ops[i]? = some o → L i → ∀ e ∈ o.after, Region.binds .any e = true → L e.on)
    {p0 : Nat} (I0 : Inv lk nt xs E H v ρ0 h0 w0 L ρ p0 eS a w) {i : Nat} {o : Oper} (ho : ops[i]? = some o) (hL : ¬ L i) (hall : ∀ e ∈ o.after, Region.binds .any e = true → L e.on)
    {K : Act → World → Prop} {Q : Exit → Act → World → Prop}
    (hK : ∀ ρ' p' eS' a' w', Inv lk nt xs E H v ρ0 h0 w0 (fun j => L j ∨ j = i) ρ' p' eS' a' w' → K a' w') : wpOp P ops Q i K a w := by
  obtain ⟨p, I, here⟩ := I0.norm cs T _ _ rfl
  have hH := T.mono cs
  have hd : Dist xs := fun i k x y d hi hk hne hy => by
    have h := hpair i k x y hi hk
    simp only [pairOk, Bool.or_eq_true, beq_iff_eq, hne, false_or, Bool.and_eq_true, hy] at h
    simpa using h.1.1
  have hlen : ops.toList.length = xs.length := (all2_sound (R := fun _ _ => True) (fun _ _ _ => trivial) hc).length.symm
  have hsz : ops.size = xs.length := by simpa using hlen
  have him : i < xs.length := by rw [← hsz]; exact (Array.getElem?_eq_some_iff.1 ho).1
  obtain ⟨x, hi⟩ : ∃ x, xs[i]? = some x := ⟨_, List.getElem?_eq_getElem him⟩
  have hch : chk1 P lk nt ops o x = true := by
    obtain ⟨o', h1, h2⟩ := (all2_sound (R := fun x o => chk1 P lk nt ops o x = true) (fun _ _ h => h) hc).get hi
    rw [Array.getElem?_toList, ho] at h1
    cases h1
    exact h2
  have anc : ∀ j, bit A i j = true → L j := anc_listed hA hdn i o ho hall
  have ancL : ∀ k, L k → k < xs.length → ∀ j, bit A k j = true → L j := fun k hk hkm j hj => by
    have hok : ops[k]? = some ops[k] := Array.getElem?_eq_getElem (by omega)
    exact anc_listed hA hdn k _ hok (hdn k _ hok hk) j hj
  have hs := T.step i x hi
  have agree : ∀ n ∈ x.reads, eget eS n = eget (E i) n := by
    intro n hn
    by_cases hex : ∃ k y, xs[k]? = some y ∧ k ≠ i ∧ y.d = some n
    · obtain ⟨k, y, hk, hne, hy⟩ := hex
      have hkm := (List.getElem?_eq_some_iff.1 hk).1
      have h := hpair i k x y hi hk
      simp only [pairOk, Bool.or_eq_true, beq_iff_eq, hne, false_or, Bool.and_eq_true, hy] at h
      have h2 := h.1.2
      simp only [Bool.not_eq_true', List.contains_eq_mem, decide_eq_false_iff_not, hn, not_true_eq_false, false_or, Nat.blt_eq] at h2
      rcases h2 with ⟨h2, h3⟩ | ⟨h2, h3⟩
      · rw [I.es1 k y n hk (anc k h3) hy, T.et1 hd hk hy i h2 (by omega)]
      · have hnl : ¬ L k := fun hl => hL (ancL k hl hkm i h3)
        rw [I.es2 n, T.et2 i (by omega)]
        · intro k' y' hk' hlt hy'
          have : k' = k := Classical.byContradiction fun hne' => hd k k' y y' n hk hk' hne' hy' hy
          omega
        · intro k' y' hk' hl hy'
          have : k' = k := Classical.byContradiction fun hne' => hd k k' y y' n hk hk' hne' hy' hy
          subst this
          exact hnl hl
    · rw [I.es2 n, T.et2 i (by omega)]
      · intro k y hk hlt hy
        exact hex ⟨k, y, hk, by omega, hy⟩
      · intro k y hk hl hy
        exact hex ⟨k, y, hk, fun e => hL (e ▸ hl), hy⟩
  have hge : x.hard = true → p ≤ i := fun hh => by
    apply Classical.byContradiction
    intro hn
    exact hL (I.front i x hi (by omega) hh)
  have dist : ∀ k y d, xs[k]? = some y → k ≠ i → y.d = some d → x.d ≠ some d := fun k y d hk hne hy => hd i k x y d hi hk hne hy
  -- nothing is made: the memory stays
  have still : x.isLoud = false → ¬ (x.o.kind = .alloc ∧ guarded (E i) x.g = some true) → stepOp C x eS (H p) = some (v i, H p) → wpOp P ops Q i K a w := fun hl hna hst => by
    refine step_sound cs I.rel I.er ho hch hst (fun id h1 h2 => by omega) fun a' w' ρ' e' r' s' _ => ?_
    exact hK _ _ _ _ _ (I.adv hH hi hL (.inl ⟨rfl, hl⟩) hna dist r' s' e')
  by_cases hloud : x.o.kind = .loud
  · have hk := hloud
    have hl : x.isLoud = true := by simp [AOp.isLoud, hk]
    have hpi : p ≤ i := hge (by simp [AOp.hard, hk])
    have hip : i = p := by
      rcases Nat.lt_or_ge p i with h | h
      · exfalso
        have hxp : xs[p]? = some xs[p] := List.getElem?_eq_getElem (by omega)
        obtain ⟨h1, h2⟩ := here _ hxp
        have hpr := hpair p i _ x hxp hi
        have hne : i ≠ p := by omega
        simp only [pairOk, Bool.or_eq_true, beq_iff_eq, hne, false_or, Bool.and_eq_true] at hpr
        have h3 := hpr.2
        simp only [h1, hl, Bool.not_true, Bool.false_eq_true, false_or, Bool.not_eq_true'] at h3
        rcases h3 with h3 | h3
        · have : Nat.blt p i = true := by simpa [Nat.blt_eq] using h
          rw [this] at h3; cases h3
        · exact h2 (anc p h3)
      · omega
    subst hip
    have hst : stepOp C x eS (H i) = some (v i, H (i + 1)) := by rw [stepOp_congr agree]; exact hs
    refine step_sound cs I.rel I.er ho hch hst (I.freeOf hH hi hl) fun a' w' ρ' e' r' s' _ => ?_
    exact hK _ _ _ _ _ (I.adv hH hi hL (.inr ⟨rfl, rfl, hl⟩) (by simp [hk]) dist r' s' e')
  rcases step_guard hs with hg | hg
  · cases hk : x.o.kind with
    | loud => exact (hloud hk).elim
    | pure =>
      refine still (by simp [AOp.isLoud, hk]) (by simp [hk]) ?_
      rw [stepOp_congr agree]
      simp only [stepOp, hg] at hs ⊢
      rw [exOp_aop (by simp [hk])] at hs ⊢
      exact (pure_any hk hs).2 _
    | reader =>
      refine still (by simp [AOp.isLoud, hk]) (by simp [hk]) ?_
      rw [stepOp_congr agree]
      have hrd : x.isReader = true := by simp [AOp.isReader, hk]
      obtain ⟨h', hr⟩ := hread i x p hi I.pm hrd hg
        (by
          rcases Nat.lt_or_ge p xs.length with h | h
          · right
            have hxp : xs[p]? = some xs[p] := List.getElem?_eq_getElem h
            simp only [hardAt, hxp]
            exact (here _ hxp).1
          · left; have := I.pm; omega)
        (fun h => by
          have hxp : xs[p]? = some xs[p] := List.getElem?_eq_getElem h
          cases hb : bit A i p with
          | false => rfl
          | true => exact ((here _ hxp).2 (anc p hb)).elim)
        (fun k hkp hkh => by
          cases hb : bit A k i with
          | false => rfl
          | true =>
            have hkm : k < xs.length := by have := I.pm; omega
            have hxk : xs[k]? = some xs[k] := List.getElem?_eq_getElem hkm
            simp only [hardAt, hxk] at hkh
            exact (hL (ancL k (I.front k _ hxk hkp hkh) hkm i hb)).elim)
      simp only [stepOp, hg]
      rw [exOp_aop (by simp [hk]), hr, reader_same hk hr]
    | alloc =>
      have hpi : p ≤ i := hge (by simp [AOp.hard, hk])
      have ha : aop x.o (E i) (H i) = some (v i, H (i + 1)) := by
        simp only [stepOp, hg] at hs
        rwa [exOp_aop (by simp [hk])] at hs
      obtain ⟨B, V, hB, hV, hany, hsh⟩ := alloc_any hk ha
      have hfree := I.freeAt hH hi hL hpi hB
      have hrel : Rel lk ρ ⟨(H i).next, (H p).blk⟩ w := by
        refine ⟨I.rel.row, I.rel.map, I.rel.inj, I.rel.lt, fun id hid => I.rel.wf id ?_⟩
        have := hH p i hpi (by omega)
        simp only at hid
        omega
      have hst : stepOp C x eS ⟨(H i).next, (H p).blk⟩ = some (v i, (⟨(H i).next, (H p).blk⟩ : AH).alloc B) := by
        rw [stepOp_congr agree]
        simp only [stepOp, hg]
        rw [exOp_aop (by simp [hk]), hany, hV]
      refine step_sound cs hrel I.er ho hch hst (fun id h1 h2 => ?_) fun a' w' ρ' e' r' s' hy => ?_
      · have : id = (H i).next := by simp only [next_alloc] at h1 h2; omega
        rw [this]; exact hfree
      · obtain ⟨y, hy⟩ := hy
        rw [hV] at hy
        obtain ⟨b, t, hbt⟩ := hsh hy
        exact hK _ _ _ _ _ (I.pend hH hi hL hpi hk hg hB dist hbt r' s' e')
  · obtain ⟨_, hv⟩ := skip_same hg hs
    refine still (by cases hk : x.o.kind <;> simp_all [AOp.isLoud]) (by simp [hg]) ?_
    rw [stepOp_congr agree]
    simp only [stepOp, hg, hv]
end
end Go.Proofs.Ytpgoemmjhnnmoaa.Ab
