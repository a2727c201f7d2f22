/- The law of the machine: a table that passes the look runs as the program does. -/
import Derived.Test.YtpgoemmjhnnmoaaAbDraw3
namespace Go.Proofs.Ytpgoemmjhnnmoaa.Ab
open Go
set_option linter.unusedVariables false
section
variable {P : Program} {lk : Lk} {nt : Nat} {C : CallF}

theorem ER.congr {ρ : Rho} {e e' : Env} {a : Act} (er : ER lk ρ nt e a) (h : ∀ n, eget e' n = eget e n) : ER lk ρ nt e' a := ⟨fun n => by rw [h n]; exact er.get n, er.size, er.defers⟩

theorem rc_read {xs : List AOp} {E : Nat → Env} {H : Nat → AH} {v : Nat → AV} {tr : List (Env × AH × AV)} (T : Tr C xs E H v) (hlen : tr.length = xs.length) (htr : ∀ k, k < xs.length → tr[k]? = some (E k, H k, v k))
    {A : List Nat} {rc : List (Nat × Nat)} (hr : allAt (fun i x => (List.range (xs.length + 1)).all (readOk A xs rc i x)) 0 xs = true) (hrc : rcOk xs tr (H xs.length) rc = true)
    (i : Nat) (x : AOp) (q : Nat) (hi : xs[i]? = some x) (hq : q ≤ xs.length) (hx : x.isReader = true) (hg : guarded (E i) x.g = some true) (h1 : q = xs.length ∨ hardAt xs q = true)
    (h2 : q < xs.length → bit A i q = false) (h3 : ∀ k, k < q → hardAt xs k = true → bit A k i = false) : ∃ h', aop x.o (E i) (H q) = some (v i, h') := by
  have him := (List.getElem?_eq_some_iff.1 hi).1
  have hro := allAt_get hr hi
  rw [Nat.zero_add, List.all_eq_true] at hro
  have hro := hro q (by simp; omega)
  simp only [readOk, Bool.or_eq_true, Bool.and_eq_true, Bool.not_eq_true', hx, Bool.true_eq_false, false_or] at hro
  have hk : x.o.kind = .reader := by
    unfold AOp.isReader at hx
    cases hk : x.o.kind <;> simp_all
  have hs := T.step i x hi
  have ha : aop x.o (E i) (H i) = some (v i, H (i + 1)) := by
    simp only [stepOp, hg] at hs
    rwa [exOp_aop (by simp [hk])] at hs
  rcases hro with (((hro | hro) | hro) | hro) | hro
  · rw [Bool.or_eq_false_iff] at hro
    rcases h1 with h1 | h1
    · simp [h1] at hro
    · simp [h1] at hro
  · rw [h2 (by simpa [Nat.blt_eq] using hro.1)] at hro
    cases hro.2
  · obtain ⟨k, hk1, hk2⟩ := List.any_eq_true.1 hro
    simp only [Bool.and_eq_true] at hk2
    rw [h3 k (by simpa using hk1) hk2.1] at hk2
    cases hk2.2
  · have hn : ∀ k, k < xs.length → min i q ≤ k → k < max i q → hardAt xs k = false := fun k hkm hk1 hk2 => by
      have := List.all_eq_true.1 hro k (by simpa using hkm)
      simp only [Bool.or_eq_true, Bool.not_eq_true', Nat.blt_eq, Nat.ble_eq] at this
      rcases this with (h | h) | h
      · exact h
      · omega
      · omega
    have hn' : ∀ (k : Nat) (y : AOp), xs[k]? = some y → min i q ≤ k → k < max i q → y.hard = false := fun k y hy hk1 hk2 => by
      have := hn k (List.getElem?_eq_some_iff.1 hy).1 hk1 hk2
      simpa [hardAt, hy] using this
    have : H q = H i := by
      rcases Nat.le_total i q with h | h
      · exact T.same h hq fun k y hy a b => hn' k y hy (by omega) (by omega)
      · exact (T.same h (by omega) fun k y hy a b => hn' k y hy (by omega) (by omega)).symm
    rw [this]
    exact ⟨_, ha⟩
  · have hm : (i, q) ∈ rc := by simpa using hro
    have := List.all_eq_true.1 hrc _ hm
    simp only [rcOne, hi, htr i him, hg] at this
    have hH : (((tr[q]?).map fun x => x.2.1).getD (H xs.length)) = H q := by
      rcases Nat.lt_or_ge q xs.length with h | h
      · simp [htr q h]
      · have : q = xs.length := by omega
        subst this
        simp [List.getElem?_eq_none (by omega : tr.length ≤ xs.length)]
    rw [hH] at this
    split at this
    · rename_i u h' hu
      rw [of_decide_eq_true this] at hu
      exact ⟨h', hu⟩
    · cases this

theorem regd_sound (cs : CSound P lk C) (hmix : P.follows .mixedOrders = true) {ops : Array Oper} {xs : List AOp} {rc : List (Nat × Nat)} (hc : chkRD P lk nt ops xs rc = true)
    {ρ : Rho} {e e' : Env} {h h' : AH} {a : Act} {w : World} {tr : List (Env × AH × AV)} (hr : exTr C xs e h = some (tr, e', h')) (hrc : rcOk xs tr h' rc = true)
    (r : Rel lk ρ h w) (er : ER lk ρ nt e a) (f : Free ρ h.next h'.next) {id : Nat} {Q : Exit → Act → World → Prop}
    (hQ : ∀ a' w' ρ', ER lk ρ' nt e' a' → Rel lk ρ' h' w' → Stp ρ h w ρ' h' w' → Q .normal a' w') : (Code.region id ops true).wp P Q a w := by
  obtain ⟨E, H, v, T, rfl, rfl, rfl, rfl, t1, t2⟩ := exTr_tr hr
  simp only [chkRD, Bool.and_eq_true] at hc
  obtain ⟨hc, ⟨hA, hp⟩, hrd⟩ := hc
  generalize ancs ops.toList [] = A at hA hp hrd
  have hH := T.mono cs
  have hpair : ∀ i k x y, xs[i]? = some x → xs[k]? = some y → pairOk A i x k y = true := fun i k x y hi hk => by
    have := allAt_get (allAt_get hp hi) hk
    simpa using this
  have hd : Dist xs := fun i k x y d hi hk hne hy => by
    have h := hpair i k x y hi hk
    simp only [pairOk, Bool.or_eq_true, beq_iff_eq, hne, false_or, Bool.and_eq_true, hy] at h
    simpa using h.1.1
  have hsz : ops.size = xs.length := by simpa using (all2_sound (R := fun _ _ => True) (fun _ _ _ => trivial) hc).length.symm
  refine wp_region_any hmix ?_
  have key : ∀ (fuel : Nat) (listed : Array Bool) (a' : Act) (w' : World) (ρ' : Rho) (p : Nat) (eS : Env), listed.size = xs.length → listed.toList.count false = fuel →
      (∀ i o, ops[i]? = some o → listed.getD i false = true → ∀ e ∈ o.after, Region.binds .any e = true → listed.getD e.on false = true) →
      Inv lk nt xs E H v ρ (H 0) w (fun k => listed.getD k false = true) ρ' p eS a' w' → wpAny P .any ops Q fuel listed a' w' := by
    -- all done
    have fin : ∀ (listed : Array Bool) (a' : Act) (w' : World) (ρ' : Rho) (p : Nat) (eS : Env), listed.size = xs.length → (∀ j, j < xs.length → listed.getD j false = true) →
        Inv lk nt xs E H v ρ (H 0) w (fun k => listed.getD k false = true) ρ' p eS a' w' → Q .normal a' w' := by
      intro listed a' w' ρ' p eS hs hall I0
      obtain ⟨q, I, here⟩ := I0.norm cs T _ _ rfl
      have hq : q = xs.length := by
        rcases Nat.lt_or_ge q xs.length with hlt | hge
        · exact ((here _ (List.getElem?_eq_getElem hlt)).2 (hall q hlt)).elim
        · have := I.pm; omega
      subst hq
      refine hQ a' w' ρ' (I.er.congr fun n => ?_) I.rel ⟨I.ag, I.st.nx, I.st.un, I.st.lv, I.st.wl, I.st.sm, I.st.sz, I.st.os, I.st.tape, I.st.output⟩
      by_cases hex : ∃ (k : Nat) (y : AOp), xs[k]? = some y ∧ y.d = some n
      · obtain ⟨k, y, hk, hy⟩ := hex
        have hkm := (List.getElem?_eq_some_iff.1 hk).1
        rw [T.et1 hd hk hy _ hkm (Nat.le_refl _), I.es1 k y n hk (hall k hkm) hy]
      · rw [T.et2 _ (Nat.le_refl _) fun k y hk _ hy => hex ⟨k, y, hk, hy⟩, I.es2 n fun k y hk _ hy => hex ⟨k, y, hk, hy⟩]
    have acyc : ∀ (listed : Array Bool), listed.size = xs.length → Region.ready .any ops listed = [] → ∀ j, j < xs.length → listed.getD j false = true := by
      intro listed hs hrdy j
      induction j using Nat.strongRecOn with
      | _ j ih =>
        intro hj
        apply Classical.byContradiction
        intro hn
        have hoj : ops[j]? = some (ops[j]'(by omega)) := Array.getElem?_eq_getElem (by omega)
        have : j ∈ Region.ready .any ops listed := by
          rw [mem_ready]
          refine ⟨?_, _, hoj, fun e he hb => ?_⟩
          · have hlt : j < listed.size := by omega
            simp [Array.getD, hlt] at hn ⊢
            exact hn
          · have := (ancOk_get (k := j) hA (by rw [Array.getElem?_toList]; exact hoj)).2 e (by simpa using he)
            exact ih e.on (by omega) (by omega)
        rw [hrdy] at this
        cases this
    intro fuel
    induction fuel with
    | zero =>
      intro listed a' w' ρ' p eS hs hcount hdn I
      have hall : ∀ j, j < xs.length → listed.getD j false = true := fun j hj => by
        have hlt : j < listed.size := by omega
        have := List.count_eq_zero.1 hcount
        have hmem : listed[j] ∈ listed.toList := by simp
        simp [Array.getD, hlt]
        cases hb : listed[j] with
        | true => rfl
        | false => rw [hb] at hmem; exact (this hmem).elim
      refine ⟨?_, fin listed a' w' ρ' p eS hs hall I⟩
      apply List.eq_nil_iff_forall_not_mem.2
      intro j hj
      obtain ⟨h1, o, ho, _⟩ := mem_ready.1 hj
      have hjm : j < xs.length := by rw [← hsz]; exact (Array.getElem?_eq_some_iff.1 ho).1
      have := hall j hjm
      have hlt : j < listed.size := by omega
      simp [Array.getD, hlt] at h1 this
      rw [h1] at this
      cases this
    | succ fuel ih =>
      intro listed a' w' ρ' p eS hs hcount hdn I
      refine ⟨fun hrdy => fin listed a' w' ρ' p eS hs (acyc listed hs hrdy) I, fun i hi => ?_⟩
      obtain ⟨h1, o, ho, hall⟩ := mem_ready.1 hi
      have him : i < xs.length := by rw [← hsz]; exact (Array.getElem?_eq_some_iff.1 ho).1
      have hlt : i < listed.size := by omega
      have hL : ¬ listed.getD i false = true := by
        simp [Array.getD, hlt] at h1 ⊢
        exact h1
      have hfalse : listed[i] = false := by simpa [Array.getD, hlt] using h1
      refine I.go cs T hc hA hpair (fun j x q => rc_read T t1 t2 hrd hrc j x q) hdn ho hL hall fun ρ2 p2 eS2 a2 w2 I2 => ?_
      have hL' : ∀ j, (listed.setIfInBounds i true).getD j false = true ↔ (listed.getD j false = true ∨ j = i) := fun j => by
        by_cases hij : j = i
        · subst hij
          simp [Array.getD, hlt]
        · rw [getD_set_ne false (fun h => hij h.symm)]
          simp [hij]
      refine ih _ a2 w2 ρ2 p2 eS2 (by simpa using hs) ?_ ?_ ?_
      · have hc2 : (listed.toList.set i true).count false = fuel := by
          rw [List.count_set (by simpa using hlt)]
          have : listed.toList[i]'(by simpa using hlt) = false := by simpa using hfalse
          simp [this, hcount]
        simpa [Array.toList_setIfInBounds] using hc2
      · intro j o' ho' hj e he hb
        rw [hL'] at hj ⊢
        rcases hj with hj | rfl
        · exact .inl (hdn j o' ho' hj e he hb)
        · rw [ho] at ho'
          cases ho'
          exact .inl (hall e he hb)
      · have : (fun k => (listed.setIfInBounds i true).getD k false = true) = fun j => (listed.getD j false = true ∨ j = i) := funext fun j => propext (hL' j)
        rw [this]
        exact I2
  refine key ops.size _ a w.drew ρ 0 (E 0) (by simp [hsz]) (by simp) ?_ ?_
  · intro i o ho h
    simp [Array.getD] at h
  · have nol : ∀ k, ¬ (Array.replicate ops.size false).getD k false = true := fun k h => by
      simp [Array.getD] at h
    refine ⟨er, r.drew, Nat.zero_le _, fun k x _ h => by omega, fun k x _ _ _ => nol k, fun k x d _ h => (nol k h).elim, fun d _ => rfl, fun _ _ => rfl, fun id h1 h2 => .inl (f id h1 h2),
      fun k ⟨_, _, _, h, _⟩ => (nol k h).elim, fun k _ _ _ _ ⟨_, _, _, h, _⟩ => (nol k h).elim, ?_⟩
    have s := Stp.drew ρ (H 0) w
    exact ⟨s.nx, s.un, s.lv, s.wl, s.sm, s.sz, s.os, s.tape, s.output⟩
end
end Go.Proofs.Ytpgoemmjhnnmoaa.Ab
