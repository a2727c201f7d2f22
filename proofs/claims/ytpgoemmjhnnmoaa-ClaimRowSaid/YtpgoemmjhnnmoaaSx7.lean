/- The second machine: what code comes to. -/
import Derived.Test.YtpgoemmjhnnmoaaSx6
namespace Go.Proofs.Ytpgoemmjhnnmoaa.Ab
open Go
set_option linter.unusedVariables false
theorem ph_eq {h h' : SH} {o : Option SV} {v : SV} (hp : ph h o = some (v, h')) : o = some v ∧ h' = h := by
  simp only [ph, Option.map_eq_some_iff] at hp
  obtain ⟨x, h1, h2⟩ := hp
  cases h2
  exact ⟨h1, rfl⟩
theorem uns_eq {h h' : SH} {o : Option SH} {v : SV} (hp : uns h o = some (v, h')) : o = some h' ∧ v = .tup [] := by
  simp only [uns, Option.map_eq_some_iff] at hp
  obtain ⟨x, h1, h2⟩ := hp
  cases h2
  exact ⟨h1, rfl⟩
def quietOp : AO → Bool
  | .mv _ | .bin _ _ _ | .eq _ _ _ _ | .not _ | .neg _ | .xor _ | .toInt _ _ | .same _ | .toStr _ | .runeStr _ | .ld _ _ | .chk _ | .fa _ _ | .ia _ _ _ | .iaa _ _ _ _ | .ix _ _ _ _ _ | .ixs _ _ | .fld _ _ _ | .ext _ _ | .slc _ _ _ _ _ | .sls _ _ _ | .sla _ _ _ _ _
  | .len _ _ | .lkp _ _ _ _ _ | .pick _ _ _ | .mn _ | .mx _ | .build _ _ => true
  | _ => false
def OkQ (o : AO) (k : Nat) (w : Wd) (h : SH) (ch : AH) (v : SV) (h' : SH) (r : Option (AV × AH)) : Prop := Ok2 k w h ch v h' r ∧ (quietOp o = true → ∃ cv, r = some (cv, ch) ∧ RS w h.length v cv)
theorem okp {o : AO} {k : Nat} {w : Wd} {h : SH} {ch : AH} (r : RH w h ch) {v : SV} {cv : AV} {p : Option (AV × AH)} (ho : p = some (cv, ch)) (hv : RS w h.length v cv) : OkQ o k w h ch v h p := ⟨.pure r ho hv, fun _ => ⟨cv, ho, hv⟩⟩
theorem okn {o : AO} (hq : quietOp o = false) {k : Nat} {w : Wd} {h h' : SH} {ch : AH} {v : SV} {p : Option (AV × AH)} (ho : Ok2 k w h ch v h' p) : OkQ o k w h ch v h' p := ⟨ho, fun h => by rw [hq] at h; cases h⟩
theorem aop2_soundq {k : Nat} {w : Wd} {h h' : SH} {ch : AH} {e : SE} {ce : Env} (r : RH w h ch) (he : RE w h.length e ce) {o : AO} {v : SV} (ho : aop2 o e h = some (v, h')) : OkQ o k w h ch v h' (aop o ce ch) := by
  have E := fun x => evs_rs he x
  cases o with
  | mv x => cases ho; exact okp r rfl (E x)
  | pick c a b =>
    simp only [aop2] at ho
    have hc := E c
    split at ho <;> cases ho
    · rename_i e1; rw [e1] at hc; cases hc with | p hc =>
      generalize hz : ev ce c = z at hc
      cases hc with | b => exact okp r (by simp only [aop, hz]) (E a)
    · rename_i e1; rw [e1] at hc; cases hc with | p hc =>
      generalize hz : ev ce c = z at hc
      cases hc with | b => exact okp r (by simp only [aop, hz]) (E b)
  | bin op x y =>
    obtain ⟨h1, rfl⟩ := ph_eq ho
    split at h1
    · rename_i a b ha hb
      simp only [Option.map_eq_some_iff] at h1
      obtain ⟨c, hc, rfl⟩ := h1
      exact okp r (by simp only [aop, pureh, sc_eq (E x) ha, sc_eq (E y) hb, hc]; rfl) (usc_rs c)
    · cases h1
  | eq kd neg x y =>
    obtain ⟨h1, rfl⟩ := ph_eq ho
    simp only [Option.map_eq_some_iff] at h1
    obtain ⟨b, hb, rfl⟩ := h1
    exact okp r (by simp only [aop, pureh, aeq2_ok (E x) (E y) hb]; rfl) (.p (.b _))
  | not x =>
    obtain ⟨h1, rfl⟩ := ph_eq ho
    have hx := E x
    split at h1 <;> cases h1
    rename_i e1; rw [e1] at hx; cases hx with | p hx =>
    generalize hz : ev ce x = z at hx
    cases hx with | b => exact okp r (by simp only [aop, pureh, hz]; rfl) (.p (.b _))
  | neg x =>
    obtain ⟨h1, rfl⟩ := ph_eq ho
    have hx := E x
    split at h1 <;> cases h1
    rename_i e1; rw [e1] at hx; cases hx with | p hx =>
    generalize hz : ev ce x = z at hx
    cases hx with | i => exact okp r (by simp only [aop, pureh, hz]; rfl) (.p (.i _ _))
  | xor x =>
    obtain ⟨h1, rfl⟩ := ph_eq ho
    have hx := E x
    split at h1 <;> cases h1
    rename_i e1; rw [e1] at hx; cases hx with | p hx =>
    generalize hz : ev ce x = z at hx
    cases hx with | i => exact okp r (by simp only [aop, pureh, hz]; rfl) (usc_rs _)
  | toInt kd x =>
    obtain ⟨h1, rfl⟩ := ph_eq ho
    have hx := E x
    split at h1 <;> cases h1
    rename_i e1; rw [e1] at hx; cases hx with | p hx =>
    generalize hz : ev ce x = z at hx
    cases hx with | i => exact okp r (by simp only [aop, pureh, hz]; rfl) (.p (.i _ _))
  | same x =>
    obtain ⟨h1, rfl⟩ := ph_eq ho
    have hx := E x
    split at h1 <;> cases h1
    rename_i e1; rw [e1] at hx; cases hx with | p hx =>
    generalize hz : ev ce x = z at hx
    cases hx with | s => exact okp r (by simp only [aop, pureh, hz]; rfl) (.p (.s _))
  | runeStr x =>
    obtain ⟨h1, rfl⟩ := ph_eq ho
    have hx := E x
    split at h1
    · rename_i e1; rw [e1] at hx; cases hx with | p hx =>
      generalize hz : ev ce x = z at hx
      cases hx with | i =>
      split at h1 <;> cases h1
      rename_i hc
      exact okp r (by simp only [aop, pureh, hz]; rw [if_pos hc]; rfl) (.p (.s _))
    · cases h1
  | toStr x =>
    obtain ⟨h1, rfl⟩ := ph_eq ho
    split at h1
    · rename_i els hels
      simp only [Option.map_eq_some_iff] at h1
      obtain ⟨l, hl, rfl⟩ := h1
      obtain ⟨row, r1, r2, r3, r4⟩ := show2_ok r (by decide) (E x) hels
      exact okp r (by simp only [aop, pureh, r1, bytes2_ok r2 r3 hl]; rfl) (.p (.s _))
    · cases h1
  | toBytes x =>
    simp only [aop2] at ho
    have hx := E x
    split at ho
    · rename_i e1; rw [e1] at hx; cases hx with | p hx =>
      generalize hz : ev ce x = z at hx
      cases hx with | s =>
      rename_i l
      split at ho
      · rename_i hc
        cases ho
        have h4 : ElsR w.fro 1 (l.map fun c => [PV.i .u8 c.toNat]) (l.map fun c => AV.i .u8 c.toNat) 0 := by
          refine .of (by simp) (fun j el hj => ?_) (fun j el t c a hj ht hlt ha => ?_)
          · rw [List.getElem?_map] at hj
            cases hl : l[j]? with
            | none => simp [hl] at hj
            | some x => simp [hl] at hj; subst hj; rfl
          · rw [List.getElem?_map] at hj
            cases hl : l[j]? with
            | none => simp [hl] at hj
            | some x =>
              simp [hl] at hj; subst hj
              cases t with
              | zero => simp [hl] at ht ha; subst ht; subst ha; exact .i _ _
              | succ t => simp at ht
        refine okn rfl (.new r (cb := .row (l.map fun c : UInt8 => AV.i .u8 c.toNat) false) (len := l.length) (cv := .sl ch.next 0 l.length l.length 1) ?_ (.arr (by rw [add_rl]; simp) (by decide) h4) ?_)
        · simp only [aop, hz]; rw [if_pos hc]
        · have := RS.sl (w := w.add h.length ch.next l.length) (n := h.length + 1) (esz := 1) (id := h.length) (off := 0) (len := l.length) (cap := none) (ccap := l.length) (lo := 1) (Nat.lt_succ_self _) add_ρ (by decide) (by simp) (Nat.le_refl _) (.inr rfl) (by rw [add_rl]; omega)
          simpa using this
      · cases ho
    · cases ho
  | alloc z =>
    cases ho
    exact okn rfl (.new r (cb := .row z false) (len := z.length) rfl (.obj add_rl.symm (cst_map z)) (.ptr (Nat.lt_succ_self _) add_ρ))
  | box sz x =>
    simp only [aop2] at ho
    split at ho
    · rename_i cs hcs
      split at ho
      · rename_i hl
        cases ho
        obtain ⟨ccs, h1, h2⟩ := (E x).cl hcs
        refine okn rfl (.new r (cb := .row ccs false) (len := ccs.length) (cv := .ptr ch.next 0) ?_ (.obj add_rl.symm (h2.mono fun _ _ h => h.mono (r.addLe _) (Nat.le_succ _))) (.ptr (Nat.lt_succ_self _) add_ρ))
        simp only [aop, h1]
        rw [if_pos (by rw [← h2.1]; exact hl)]
      · cases ho
    · cases ho
  | build z ps =>
    obtain ⟨h1, rfl⟩ := ph_eq ho
    simp only [Option.map_eq_some_iff] at h1
    obtain ⟨cs, hcs, rfl⟩ := h1
    obtain ⟨ccs, h2, h3⟩ := fills2_ok he (cst_map z) hcs
    exact okp r (by simp only [aop, pureh, h2]; rfl) (.agg h3.1 h3.2)
  | bsl esz len z ps =>
    simp only [aop2] at ho
    split at ho
    · rename_i cs hcs
      split at ho
      · rename_i l hl
        split at ho
        · rename_i hc
          cases ho
          obtain ⟨ccs, h2, h3⟩ := fills2_ok he (cst_map z) hcs
          obtain rfl := pvs_eq hl
          have hpp : P2 (RP w.fro) l ccs := by
            refine ⟨by have := h3.1; simpa using this, fun j x y hx hy => ?_⟩
            have := h3.2 j (.p x) y (by simp [hx]) hy
            cases this with | p h => exact h
          have hlen : ccs.length = len * esz := by rw [← hpp.1]; exact hc.2
          refine okn rfl (.new r (cb := .row ccs false) (len := ccs.length) (cv := .sl ch.next 0 len len 0) ?_ (.arr add_rl.symm hc.1 (chunk_ok hc.1 hpp hc.2)) ?_)
          · simp only [aop, h2]
            rw [if_pos hlen]
          · have := RS.sl (w := w.add h.length ch.next ccs.length) (n := h.length + 1) (esz := esz) (id := h.length) (off := 0) (len := len) (cap := none) (ccap := len) (lo := 0) (Nat.lt_succ_self _) add_ρ hc.1 (by simp) (Nat.le_refl _) (.inl rfl) (by rw [add_rl]; omega)
            simpa using this
        · cases ho
      · cases ho
    · cases ho
  | ld sz a =>
    obtain ⟨h1, rfl⟩ := ph_eq ho
    obtain ⟨cv, h2, h3⟩ := ld2_ok r (E a) h1
    exact okp r h2 h3
  | st sz a x =>
    obtain ⟨h1, rfl⟩ := uns_eq (h := h) ho
    exact okn rfl (st2_ok r (E a) (E x) h1)
  | chk x =>
    obtain ⟨h1, rfl⟩ := ph_eq ho
    obtain ⟨cv, h2, h3⟩ := chk2_ok (E x) h1
    exact okp r (by simp only [aop, pureh, h2]; rfl) h3
  | fa off a =>
    obtain ⟨h1, rfl⟩ := ph_eq ho
    obtain ⟨id, o, h2, h3⟩ := fa2_ok (E a) h1
    exact okp r (by simp only [aop, pureh, h2]; rfl) h3
  | ia esz x ix =>
    obtain ⟨h1, rfl⟩ := ph_eq ho
    obtain ⟨cv, h2, h3⟩ := ia2_ok (E x) (E ix) h1
    exact okp r (by simp only [aop, pureh, h2]; rfl) h3
  | iaa m esz x ix =>
    obtain ⟨h1, rfl⟩ := ph_eq ho
    obtain ⟨cv, h2, h3⟩ := iaa2_ok (E x) (E ix) h1
    exact okp r (by simp only [aop, pureh, h2]; rfl) h3
  | ix m esz ag x ix =>
    obtain ⟨h1, rfl⟩ := ph_eq ho
    obtain ⟨cv, h2, h3⟩ := ix2_ok (E x) (E ix) h1
    exact okp r (by simp only [aop, pureh, h2]; rfl) h3
  | ixs x ix =>
    obtain ⟨h1, rfl⟩ := ph_eq ho
    obtain ⟨cv, h2, h3⟩ := ixs2_ok (E x) (E ix) h1
    exact okp r (by simp only [aop, pureh, h2]; rfl) h3
  | fld off sz x =>
    obtain ⟨h1, rfl⟩ := ph_eq ho
    obtain ⟨cv, h2, h3⟩ := fld2_ok (E x) h1
    exact okp r (by simp only [aop, pureh, h2]; rfl) h3
  | ext ix x =>
    obtain ⟨h1, rfl⟩ := ph_eq ho
    obtain ⟨cv, h2, h3⟩ := ext2_ok (E x) h1
    exact okp r (by simp only [aop, pureh, h2]; rfl) h3
  | slc esz x lo hi mx =>
    obtain ⟨h1, rfl⟩ := ph_eq ho
    obtain ⟨cv, h2, h3⟩ := slc2_ok (E x) (or_map he lo) (or_map he hi) (or_map he mx) h1
    exact okp r (by simp only [aop, pureh, h2]; rfl) h3
  | sls x lo hi =>
    obtain ⟨h1, rfl⟩ := ph_eq ho
    obtain ⟨cv, h2, h3⟩ := sls2_ok (E x) (or_map he lo) (or_map he hi) h1
    exact okp r (by simp only [aop, pureh, h2]; rfl) h3
  | sla m esz x lo hi =>
    obtain ⟨h1, rfl⟩ := ph_eq ho
    obtain ⟨cv, h2, h3⟩ := sla2_ok (E x) (or_map he lo) (or_map he hi) h1
    exact okp r (by simp only [aop, pureh, h2]; rfl) h3
  | mks esz bytes z l c => exact okn rfl (mks2_ok r (E l) (E c) ho)
  | mkm =>
    cases ho
    exact okn rfl (.new r (cb := .map [] 0) (len := 0) rfl (.map .nil) (.mp (Nat.lt_succ_self _) add_ρ))
  | lkp kk z ok m x =>
    obtain ⟨h1, rfl⟩ := ph_eq ho
    obtain ⟨cv, h2, h3⟩ := lkp2_ok r (E m) (E x) h1
    exact okp r h2 h3
  | mup kk m x v =>
    obtain ⟨h1, rfl⟩ := uns_eq (h := h) ho
    exact okn rfl (mup2_ok r (E m) (E x) (E v) h1)
  | ment => cases ho
  | mst => cases ho
  | mkf f first cap =>
    simp only [aop2] at ho
    split at ho
    · rename_i hc
      cases ho
      obtain ⟨q1, a1, a2, a3⟩ := ptrs_ok (evs_map he first) hc.1
      obtain ⟨q2, b1, b2, b3⟩ := ptrs_ok (evs_map he cap) hc.2
      exact okp r (by simp only [aop, pureh, a1, b1]; rfl) (.fn a2 a3 b2 b3)
    · cases ho
  | call => cases ho
  | callv => cases ho
  | len kd x =>
    obtain ⟨h1, rfl⟩ := ph_eq ho
    obtain ⟨cv, h2, h3⟩ := len2_ok r (E x) h1
    exact okp r (by simp only [aop, pureh, h2]; rfl) h3
  | app esz bytes s x => exact okn rfl (app2_ok r (E s) (E x) ho)
  | cpy esz d s => exact okn rfl (cpy2_ok r (E d) (E s) ho)
  | mn l =>
    obtain ⟨h1, rfl⟩ := ph_eq ho
    split at h1
    · rename_i x l' hl
      simp only [Option.map_eq_some_iff] at h1
      obtain ⟨c, hc, rfl⟩ := h1
      exact okp r (by simp only [aop, pureh, scs_eq (evs_map he l) hl, hc]; rfl) (usc_rs c)
    · cases h1
  | mx l =>
    obtain ⟨h1, rfl⟩ := ph_eq ho
    split at h1
    · rename_i x l' hl
      simp only [Option.map_eq_some_iff] at h1
      obtain ⟨c, hc, rfl⟩ := h1
      exact okp r (by simp only [aop, pureh, scs_eq (evs_map he l) hl, hc]; rfl) (usc_rs c)
    · cases h1
  | del kk m x =>
    obtain ⟨h1, rfl⟩ := uns_eq (h := h) ho
    exact okn rfl (del2_ok r (E m) (E x) h1)
  | clr esz z x => exact okn rfl (clr2_ok r (E x) ho)
theorem aop2_sound {k : Nat} {w : Wd} {h h' : SH} {ch : AH} {e : SE} {ce : Env} (r : RH w h ch) (he : RE w h.length e ce) {o : AO} {v : SV} (ho : aop2 o e h = some (v, h')) : Ok2 k w h ch v h' (aop o ce ch) := (aop2_soundq r he ho).1
theorem aop2_quiet {w : Wd} {h h' : SH} {ch : AH} {e : SE} {ce : Env} (r : RH w h ch) (he : RE w h.length e ce) {o : AO} {v : SV} (ho : aop2 o e h = some (v, h')) (hq : quietOp o = true) : ∃ cv, aop o ce ch = some (cv, ch) ∧ RS w h.length v cv := (aop2_soundq (k := 0) r he ho).2 hq
end Go.Proofs.Ytpgoemmjhnnmoaa.Ab
