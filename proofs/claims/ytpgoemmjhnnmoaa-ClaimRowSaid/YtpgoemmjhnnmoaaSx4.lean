/- The second machine: operations that only read are those of the first. -/
import Derived.Test.YtpgoemmjhnnmoaaSx3
namespace Go.Proofs.Ytpgoemmjhnnmoaa.Ab
open Go
set_option linter.unusedVariables false
section
variable {k : Nat} {w : Wd} {h : SH} {ch : AH} {n : Nat}
theorem cst_rs (v : AV) : RS w n (cst v) v := by
  cases v <;> first | exact .un | exact .p (.b _) | exact .p (.i _ _) | exact .p (.s _) | exact .p .nilp | exact .p .nils | exact .p .nilm | exact .p .nilf
theorem evs_rs {e : SE} {ce : Env} (he : RE w n e ce) (x : AX) : RS w n (evs e x) (ev ce x) := by
  cases x with
  | t s => exact he s
  | c v => exact cst_rs v
theorem evs_map {e : SE} {ce : Env} (he : RE w n e ce) (l : List AX) : P2 (RS w n) (l.map (evs e)) (l.map (ev ce)) := by
  refine ⟨by simp, fun j x y hx hy => ?_⟩
  rw [List.getElem?_map] at hx hy
  cases hl : l[j]? with
  | none => simp [hl] at hx
  | some a => simp [hl] at hx hy; subst hx; subst hy; exact evs_rs he a
theorem cst_map (z : List AV) : P2 (RS w n) (z.map cst) z := by
  refine ⟨by simp, fun j x y hx hy => ?_⟩
  rw [List.getElem?_map] at hx
  simp [hy] at hx
  subst hx
  exact cst_rs y
theorem scs_eq : ∀ {xs : List SV} {ys as : List AV}, P2 (RS w n) xs ys → scs xs = some as → ys = as
  | [], ys, as, h, hs => by
    cases hs
    exact List.length_eq_zero_iff.1 h.1.symm
  | v :: r, ys, as, h, hs => by
    simp only [scs] at hs
    split at hs
    · rename_i a l h1 h2
      cases hs
      cases ys with
      | nil => have := h.1; simp at this
      | cons y ys =>
        have hy := h.2 0 v y rfl rfl
        have hr : P2 (RS w n) r ys := ⟨by have := h.1; simpa using this, fun j a b ha hb => h.2 (j + 1) a b (by simpa using ha) (by simpa using hb)⟩
        rw [sc_eq hy h1, scs_eq hr h2]
    · cases hs
theorem pvs_eq : ∀ {cs : List SV} {ps : List PV}, pvs cs = some ps → cs = ps.map .p
  | [], ps, h => by cases h; rfl
  | .p v :: r, ps, h => by
    simp only [pvs, Option.map_eq_some_iff] at h
    obtain ⟨l, h1, rfl⟩ := h
    rw [pvs_eq h1]; rfl
  | .ptr _ _ :: _, ps, h => by simp [pvs] at h
  | .ep _ _ _ _ :: _, ps, h => by simp [pvs] at h
  | .sl _ _ _ _ _ :: _, ps, h => by simp [pvs] at h
  | .so _ _ _ _ :: _, ps, h => by simp [pvs] at h
  | .mp _ :: _, ps, h => by simp [pvs] at h
  | .fn _ _ _ :: _, ps, h => by simp [pvs] at h
  | .agg _ :: _, ps, h => by simp [pvs] at h
  | .tup _ :: _, ps, h => by simp [pvs] at h
  | .alt _ _ :: _, ps, h => by simp [pvs] at h
  | .un :: _, ps, h => by simp [pvs] at h
theorem setg_length {α : Type} : ∀ (vs : List α) (o : Nat) (cs : List α), (setg cs o vs).length = cs.length
  | [], _, _ => rfl
  | v :: r, o, cs => by rw [setg, setg_length]; simp
theorem setg_get {α : Type} : ∀ (vs : List α) (o : Nat) (cs : List α) (j : Nat), o + vs.length ≤ cs.length → (setg cs o vs)[j]? = if o ≤ j ∧ j < o + vs.length then vs[j - o]? else cs[j]?
  | [], o, cs, j, hl => by simp only [setg, List.length_nil]; rw [if_neg (by omega)]
  | v :: r, o, cs, j, hl => by
    simp only [List.length_cons] at hl ⊢
    rw [setg, setg_get r (o + 1) _ j (by simp; omega)]
    by_cases h1 : j = o
    · subst h1
      rw [if_neg (by omega), if_pos (by omega)]
      simp [List.getElem?_set]; omega
    · by_cases h2 : o + 1 ≤ j ∧ j < o + 1 + r.length
      · rw [if_pos h2, if_pos (by omega), show j - o = (j - (o + 1)) + 1 by omega]; simp
      · rw [if_neg h2, if_neg (by omega), List.getElem?_set_ne (by omega)]
theorem setl_setg : ∀ (vs : List AV) (o : Nat) (cs : List AV), setl cs o vs = setg cs o vs
  | [], _, _ => rfl
  | v :: r, o, cs => by rw [setl, setg, setl_setg]
theorem P2.setg {α β : Type} {R : α → β → Prop} : ∀ {vs : List α} {us : List β} (o : Nat) {xs : List α} {ys : List β}, P2 R xs ys → P2 R vs us → P2 R (setg xs o vs) (setg ys o us)
  | [], us, o, xs, ys, h, h' => by
    have : us = [] := List.length_eq_zero_iff.1 h'.1.symm
    subst this; exact h
  | v :: r, us, o, xs, ys, h, h' => by
    cases us with
    | nil => have := h'.1; simp at this
    | cons u us =>
      exact P2.setg (o + 1) (h.set o (h'.2 0 v u rfl rfl)) ⟨by have := h'.1; simpa using this, fun j a b ha hb => h'.2 (j + 1) a b (by simpa using ha) (by simpa using hb)⟩
theorem any_un {cs : List SV} {ccs : List AV} (hp : P2 (RS w n) cs ccs) (hu : cs.any SV.isUn = false) : ccs.any AV.isUn = false := by
  rw [List.any_eq_false] at hu ⊢
  intro a ha
  obtain ⟨j, hj⟩ := List.mem_iff_getElem?.1 ha
  have hj' : j < cs.length := by rw [hp.1]; exact (List.getElem?_eq_some_iff.1 hj).1
  have h1 := hp.2 j cs[j] a (List.getElem?_eq_getElem hj') hj
  have h2 := hu cs[j] (List.getElem_mem hj')
  rw [h1.ne_un (by simpa using h2)]; simp
theorem bAt_eq {id : Nat} {b : B2} (hb : bAt h id = some b) : h[id]? = some (some b) := by
  unfold bAt at hb
  split at hb
  · rename_i h1; cases hb; exact h1
  · cases hb
/-- a block, with a place -/
theorem RH.at (r : RH w h ch) {id c : Nat} {b : B2} (hb : bAt h id = some b) (hc : w.ρ id = some c) : ∃ cb, ch.blk c = some cb ∧ RB w h.length c b cb := r.blk id b c (bAt_eq hb) hc

/-! ### reading -/
theorem ldc_ok {cs : List SV} {ccs : List AV} {ro : Bool} {c off : Nat} {sz : Option Nat} {v : SV} (hb : ch.blk c = some (.row ccs ro)) (hp : P2 (RS w n) cs ccs) (hv : ldc sz off cs = some v) :
    ∃ cv, aload sz (.ptr c off) ch = some (cv, ch) ∧ RS w n v cv := by
  unfold ldc at hv
  cases sz with
  | none =>
    simp only at hv
    split at hv
    · rename_i x hx
      split at hv
      · cases hv
      · rename_i hu
        cases hv
        obtain ⟨a, ha, hr⟩ := hp.get hx
        have hu := hr.ne_un (by simpa using hu)
        exact ⟨a, by simp [aload, AH.rd, hb, ha, hu], hr⟩
    · cases hv
  | some m =>
    simp only at hv
    split at hv
    · rename_i h1
      cases hv
      have h2 := any_un ((hp.drop off).take m) h1.2
      refine ⟨.agg ((ccs.drop off).take m), ?_, .agg ((hp.drop off).take m).1 ((hp.drop off).take m).2⟩
      simp only [aload, AH.rdn, hb]
      rw [if_pos ⟨by rw [← hp.1]; exact h1.1, h2⟩]
      rfl
    · cases hv
theorem any_p (l : List PV) : (l.map SV.p).any SV.isUn = false := by
  rw [List.any_eq_false]; intro x hx; obtain ⟨a, _, rfl⟩ := List.mem_map.1 hx; simp [SV.isUn]
theorem ldp_ldc {sz : Option Nat} {t : Nat} {cs : List PV} {v : SV} (h : ldp sz t cs = some v) : ldc sz t (cs.map .p) = some v := by
  unfold ldp at h
  unfold ldc
  cases sz with
  | none =>
    simp only [Option.map_eq_some_iff] at h
    obtain ⟨a, ha, rfl⟩ := h
    simp [ha, SV.isUn]
  | some m =>
    simp only at h ⊢
    split at h
    · rename_i h1
      cases h
      rw [if_pos ⟨by simpa using h1, by rw [← List.map_drop, ← List.map_take]; exact any_p _⟩, ← List.map_drop, ← List.map_take]
    · cases h
/-- cells that lie in a row from a place on -/
theorem ldp_ok {cs : List PV} {row : List AV} {ro : Bool} {c o t : Nat} {sz : Option Nat} {v : SV} (hb : ch.blk c = some (.row row ro)) (hl : o + cs.length ≤ row.length)
    (hp : ∀ (j : Nat) x a, cs[j]? = some x → row[o + j]? = some a → RP w.fro x a) (hv : ldp sz t cs = some v) : ∃ cv, aload sz (.ptr c (o + t)) ch = some (cv, ch) ∧ RS w n v cv := by
  have hP : P2 (RS w n) (cs.map .p) ((row.drop o).take cs.length) := by
    refine ⟨by simp; omega, fun j x a hx ha => ?_⟩
    rw [List.getElem?_map] at hx
    rw [List.getElem?_take] at ha
    split at ha
    · rw [List.getElem?_drop] at ha
      cases hc : cs[j]? with
      | none => simp [hc] at hx
      | some y => simp [hc] at hx; subst hx; exact .p (hp j y a hc ha)
    · cases ha
  obtain ⟨cv, h1, h2⟩ := ldc_ok (ch := ⟨ch.next, fun _ => some (.row ((row.drop o).take cs.length) true)⟩) (c := c) rfl hP (ldp_ldc hv)
  refine ⟨cv, ?_, h2⟩
  unfold ldp at hv
  cases sz with
  | none =>
    simp only [Option.map_eq_some_iff] at hv
    obtain ⟨a, ha, rfl⟩ := hv
    have htl := (List.getElem?_eq_some_iff.1 ha).1
    simp only [aload, AH.rd, Option.map_eq_some_iff] at h1 ⊢
    rw [List.getElem?_take, if_pos htl, List.getElem?_drop] at h1
    rw [hb]
    simpa using h1
  | some m =>
    simp only at hv
    split at hv
    · rename_i hm
      cases hv
      simp only [aload, AH.rdn, Option.map_eq_some_iff] at h1 ⊢
      rw [hb]
      obtain ⟨x, h3, h4⟩ := h1
      split at h3
      · rename_i h5
        cases h3
        have e : List.take m (List.drop t (List.take cs.length (List.drop o row))) = List.take m (List.drop (o + t) row) := by
          rw [List.drop_take, List.take_take, List.drop_drop, Nat.min_eq_left (by omega)]
        rw [e] at h4 h5
        cases h4
        refine ⟨_, ?_, rfl⟩
        simp only
        rw [if_pos ⟨by omega, h5.2⟩]
      · cases h3
    · cases hv
theorem ld2_ok (r : RH w h ch) {a : SV} {ca : AV} (ha : RS w h.length a ca) {sz : Option Nat} {v : SV} (hv : ld2 sz a h = some v) : ∃ cv, aload sz ca ch = some (cv, ch) ∧ RS w h.length v cv := by
  unfold ld2 at hv
  split at hv
  · split at hv
    · rename_i hb
      cases ha with
      | ptr hi hc =>
        obtain ⟨cb, h1, h2⟩ := r.at hb hc
        cases h2 with
        | obj hl hp => exact ldc_ok h1 hp hv
    · cases hv
  · rename_i esz0 id0 j0 t0
    split at hv
    · rename_i hb
      split at hv
      · rename_i he
        subst he
        split at hv
        · rename_i el hel
          cases ha with
          | ep hi hc =>
            obtain ⟨cb, h1, h2⟩ := r.at hb hc
            cases h2 with
            | arr hl he hels =>
              have hsz := hels.2.1 _ _ hel
              have hj := (List.getElem?_eq_some_iff.1 hel).1
              have := Nat.mul_le_mul_right el.length (Nat.succ_le_of_lt hj)
              rw [hsz] at this
              rw [Nat.succ_mul] at this
              refine ldp_ok h1 (by rw [hsz]; have := hels.1; omega) (fun t x a hx ha => hels.2.2 _ _ t x a hel hx (by simpa using ha)) hv
        · cases hv
      · cases hv
    · cases hv
  · cases ha with
    | p ha =>
      cases ha with
      | fp hf hr hp =>
        obtain ⟨_, ro, hb⟩ := r.fro _ _ hf
        exact ldp_ok hb hr hp hv
  · cases hv
theorem chk2_ok {a v : SV} {ca : AV} (ha : RS w n a ca) (hv : chk2 a = some v) : ∃ cv, achk ca = some cv ∧ RS w n v cv := by
  unfold chk2 at hv
  split at hv <;> cases hv
  · cases ha with | ptr hi hc => exact ⟨_, rfl, .ptr hi hc⟩
  · cases ha with | ep hi hc => exact ⟨_, rfl, .ep hi hc⟩
  · cases ha with | p ha => cases ha with | fp h1 h2 h3 => exact ⟨_, rfl, .p (.fp h1 h2 h3)⟩
  · cases ha with | fn h1 h2 h3 h4 => exact ⟨_, rfl, .fn h1 h2 h3 h4⟩
theorem fa2_ok {a v : SV} {ca : AV} {off : Nat} (ha : RS w n a ca) (hv : fa2 off a = some v) : ∃ id o, ca = .ptr id o ∧ RS w n v (.ptr id (o + off)) := by
  unfold fa2 at hv
  split at hv <;> cases hv
  · cases ha with | ptr hi hc => exact ⟨_, _, rfl, .ptr hi hc⟩
  · cases ha with | ep hi hc => exact ⟨_, _, rfl, by rw [Nat.add_assoc]; exact .ep hi hc⟩
  · cases ha with | p ha => cases ha with | fp h1 h2 h3 => exact ⟨_, _, rfl, by rw [Nat.add_assoc]; exact .p (.fp h1 h2 h3)⟩
theorem ia2_ok {x ix v : SV} {cx cix : AV} {esz : Nat} (hx : RS w n x cx) (hix : RS w n ix cix) (hv : ia2 esz x ix = some v) : ∃ cv, aidx esz cx cix = some cv ∧ RS w n v cv := by
  unfold ia2 at hv
  split at hv
  · rename_i esz' id off len cap kk j
    split at hv
    · rename_i h1
      obtain ⟨rfl, h1, h2⟩ := h1
      cases hv
      cases hix with | p hix => cases hix with | i =>
      cases hx with
      | sl hi hc he hcap hl hlo hr =>
        refine ⟨_, by simp only [aidx]; rw [if_pos ⟨h1, h2⟩], ?_⟩
        have := RS.ep (w := w) (n := n) (esz := esz') (j := off + j.toNat) (t := 0) hi hc
        rw [Nat.add_mul] at this
        simpa using this
      | slv => simp at h2; omega
    · cases hv
  · rename_i esz' id off len kk j
    split at hv
    · rename_i h1
      obtain ⟨rfl, h1, h2⟩ := h1
      cases hv
      cases hix with | p hix => cases hix with | i =>
      cases hx with
      | so hi hc hl => exact ⟨_, by simp only [aidx]; rw [if_pos ⟨h1, h2⟩], .ptr hi hc⟩
    · cases hv
  · rename_i esz' els kk j
    split at hv
    · rename_i h1
      obtain ⟨rfl, h1⟩ := h1
      simp only [Option.map_eq_some_iff] at hv
      obtain ⟨el, hel, rfl⟩ := hv
      cases hix with | p hix => cases hix with | i =>
      cases hx with | p hx =>
      cases hx with
      | fz0 => simp at hel
      | fz1 => simp at hel
      | fz hf he hl hc hlo hr hz hp =>
        have hj := (List.getElem?_eq_some_iff.1 hel).1
        refine ⟨_, by simp only [aidx]; rw [if_pos ⟨h1, by omega⟩], ?_⟩
        have hsz := hz _ _ hel
        have hm := Nat.mul_le_mul_right esz' (Nat.succ_le_of_lt hj)
        refine .p ?_
        have := RP.fp (fro := w.fro) (cs := el) (t := 0) hf (o := _) ?_ (fun k c a h3 h4 => hp _ _ k c a hel h3 h4)
        · simpa using this
        · rw [Nat.succ_mul] at hm
          rw [hl] at hm
          rw [hsz]
          omega
    · cases hv
  · cases hv
theorem iaa2_ok {x ix v : SV} {cx cix : AV} {m esz : Nat} (hx : RS w n x cx) (hix : RS w n ix cix) (hv : iaa2 m esz x ix = some v) : ∃ cv, aidxa m esz cx cix = some cv ∧ RS w n v cv := by
  unfold iaa2 at hv
  split at hv
  · split at hv
    · rename_i h1
      cases hix with | p hix => cases hix with | i =>
      obtain ⟨id, o, rfl, h2⟩ := fa2_ok hx hv
      exact ⟨_, by simp only [aidxa]; rw [if_pos h1], h2⟩
    · cases hv
  · cases hv
theorem ix2_ok {x ix v : SV} {cx cix : AV} {m esz : Nat} {ag : Bool} (hx : RS w n x cx) (hix : RS w n ix cix) (hv : ix2 m esz ag x ix = some v) : ∃ cv, aidxv m esz ag cx cix = some cv ∧ RS w n v cv := by
  unfold ix2 at hv
  split at hv
  · cases hix with | p hix => cases hix with | i =>
    cases hx with
    | agg h1 h2 =>
      have hp : P2 (RS w n) _ _ := ⟨h1, h2⟩
      split at hv
      · rename_i hj
        simp only [aidxv]
        rw [if_pos hj]
        split at hv
        · rename_i hag
          split at hv
          · rename_i hlen
            cases hv
            rw [if_pos hag, if_pos (by rw [← hp.1]; exact hlen)]
            exact ⟨_, rfl, .agg ((hp.drop _).take _).1 ((hp.drop _).take _).2⟩
          · cases hv
        · rename_i hag
          rw [if_neg hag]
          exact hp.get hv
      · cases hv
  · cases hv
theorem ixs2_ok {x ix v : SV} {cx cix : AV} (hx : RS w n x cx) (hix : RS w n ix cix) (hv : ixs2 x ix = some v) : ∃ cv, aidxs cx cix = some cv ∧ RS w n v cv := by
  unfold ixs2 at hv
  split at hv
  · cases hix with | p hix => cases hix with | i =>
    cases hx with | p hx => cases hx with | s =>
    split at hv
    · rename_i h1
      simp only [Option.map_eq_some_iff] at hv
      obtain ⟨c, hc, rfl⟩ := hv
      exact ⟨.i .u8 c.toNat, by simp only [aidxs]; rw [if_pos h1, hc]; rfl, .p (.i _ _)⟩
    · cases hv
  · cases hv
theorem fld2_ok {x v : SV} {cx : AV} {off : Nat} {sz : Option Nat} (hx : RS w n x cx) (hv : fld2 off sz x = some v) : ∃ cv, afield off sz cx = some cv ∧ RS w n v cv := by
  unfold fld2 at hv
  split at hv
  · cases hx with
    | agg h1 h2 =>
      have hp : P2 (RS w n) _ _ := ⟨h1, h2⟩
      exact hp.get hv
  · cases hx with
    | agg h1 h2 =>
      have hp : P2 (RS w n) _ _ := ⟨h1, h2⟩
      split at hv
      · rename_i hl
        cases hv
        simp only [afield]
        rw [if_pos (by rw [← hp.1]; exact hl)]
        exact ⟨_, rfl, .agg ((hp.drop _).take _).1 ((hp.drop _).take _).2⟩
      · cases hv
  · cases hv
theorem ext2_ok {x v : SV} {cx : AV} {j : Nat} (hx : RS w n x cx) (hv : ext2 j x = some v) : ∃ cv, aext j cx = some cv ∧ RS w n v cv := by
  unfold ext2 at hv
  split at hv
  · cases hx with
    | tup h1 h2 =>
      have hp : P2 (RS w n) _ _ := ⟨h1, h2⟩
      exact hp.get hv
  · cases hv
def OR (w : Wd) (n : Nat) : Option SV → Option AV → Prop
  | none, none => True
  | some v, some a => RS w n v a
  | _, _ => False
theorem bnd2_ok {v : Option SV} {cv : Option AV} {d m r : Nat} (hv : OR w n v cv) (hb : bnd2 v d m = some r) : bnd cv d m = some r := by
  cases v with
  | none => cases cv with
    | none => exact hb
    | some => exact hv.elim
  | some v => cases cv with
    | none => exact hv.elim
    | some a =>
      simp only [OR] at hv
      unfold bnd2 at hb
      split at hb
      · rename_i hh; cases hh
      · rename_i hh; cases hh
        cases hv with | p hv => cases hv with | i => exact hb
      · cases hb
theorem bnd2_le {v : Option SV} {d m r : Nat} (hb : bnd2 v d m = some r) (hd : d ≤ m) : r ≤ m := by
  unfold bnd2 at hb
  split at hb
  · cases hb; exact hd
  · split at hb
    · cases hb; omega
    · cases hb
  · cases hb
/-- a bound that is let in below one limit is let in below a greater one -/
theorem bnd_mono {v : Option AV} {d m m' r : Nat} (hm : m ≤ m') (hb : bnd v d m = some r) : bnd v d m' = some r := by
  unfold bnd at hb ⊢
  split at hb
  · exact hb
  · rename_i j
    split at hb
    · rename_i h1
      cases hb
      rw [if_pos (by omega)]
    · cases hb
  · cases hb
theorem or_map {e : SE} {ce : Env} (he : RE w n e ce) (x : Option AX) : OR w n (x.map (evs e)) (x.map (ev ce)) := by
  cases x with
  | none => trivial
  | some x => exact evs_rs he x
theorem or_some {a : Option SV} {b : Option AV} (h : OR w n a b) : a.isSome = b.isSome := by
  cases a <;> cases b <;> first | rfl | exact h.elim
/-- the top of a slice: where none is told it is the slice's own, which is as great as what is known of it, or greater -/
theorem top_ok {mx : Option SV} {cmx : Option AV} {top ctop m : Nat} (hx : OR w n mx cmx) (hle : top ≤ ctop) (hm : bnd2 mx top top = some m) : ∃ cm, bnd cmx ctop ctop = some cm ∧ m ≤ cm ∧ m ≤ top ∧ (cmx.isSome = true → cm = m) ∧ cm ≤ ctop := by
  cases mx with
  | none =>
    cases cmx with
    | none => cases hm; exact ⟨ctop, rfl, hle, Nat.le_refl _, fun h => (by cases h), Nat.le_refl _⟩
    | some => exact hx.elim
  | some v =>
    have h1 := bnd_mono hle (bnd2_ok hx hm)
    have h2 := bnd2_le hm (Nat.le_refl _)
    cases cmx with
    | none => exact hx.elim
    | some a =>
      refine ⟨m, ?_, Nat.le_refl _, h2, fun _ => rfl, by omega⟩
      unfold bnd at h1 ⊢
      split at h1
      · rename_i hh; cases hh
      · rename_i hh; cases hh; exact h1
      · cases h1
theorem bnd2_some {v : Option SV} {d m r : Nat} (hb : bnd2 v d m = some r) (hv : v ≠ none) : r ≤ m := by
  cases v with
  | none => exact (hv rfl).elim
  | some y =>
    unfold bnd2 at hb
    split at hb
    · rename_i e; cases e
    · split at hb
      · cases hb; omega
      · cases hb
    · cases hb
theorem slc2_ok {esz : Nat} {x v : SV} {cx : AV} {lo hi mx : Option SV} {clo chi cmx : Option AV} (hx : RS w n x cx) (hlo : OR w n lo clo) (hhi : OR w n hi chi) (hmx : OR w n mx cmx) (hv : slc2 esz x lo hi mx = some v) :
    ∃ cv, aslice esz cx clo chi cmx = some cv ∧ RS w n v cv := by
  unfold slc2 at hv
  split at hv
  · cases hv
  rename_i hno
  have hno : hi = none → mx = none := fun e => by
    subst e
    cases mx with
    | none => rfl
    | some => simp at hno
  split at hv
  · cases hx with | p hx => cases hx with | nils =>
    split at hv
    · rename_i a b c h1 h2 h3
      cases hv
      exact ⟨.nils, by simp only [aslice, bnd2_ok hmx h1, bnd2_ok hhi h2, bnd2_ok hlo h3], .p .nils⟩
    · cases hv
  · rename_i esz' id off len cap
    split at hv
    · rename_i he
      subst he
      split at hv
      · cases hv
      · rename_i m hm
        split at hv
        · cases hv
        · rename_i h' hh
          split at hv
          · cases hv
          · rename_i l hl
            cases hv
            cases hx with
            | @sl _ _ _ _ _ c ccap lo' hi' hc he hcap hlen hlo' hr =>
              have hdl : cap.getD len ≤ ccap ∧ len ≤ cap.getD len := by
                cases cap with
                | none => exact ⟨hlen, Nat.le_refl _⟩
                | some k => exact ⟨(hcap k rfl).2, (hcap k rfl).1⟩
              obtain ⟨cm, h1, h2, h3, h4, h5⟩ := top_ok hmx hdl.1 hm
              have hh1 : h' ≤ m := by
                by_cases e : hi = none
                · subst e
                  obtain rfl := hno rfl
                  cases hm; cases hh
                  exact hdl.2
                · exact bnd2_some hh e
              have hl1 : l ≤ h' := bnd2_le hl (Nat.zero_le _)
              refine ⟨_, by simp only [aslice]; rw [if_pos hlo', h1]; simp only [bnd_mono h2 (bnd2_ok hhi hh), bnd2_ok hlo hl]; rfl, ?_⟩
              rw [← Nat.add_mul]
              have hmul := Nat.mul_le_mul_right esz' (show l + (cm - l) ≤ ccap by omega)
              rw [Nat.add_mul] at hmul
              refine .sl hi' hc he (fun k hk => ?_) (by omega) ?_ ?_
              · cases hk; omega
              · split
                · exact .inl rfl
                · exact hlo'
              · rw [Nat.add_mul]; omega
            | slv hi' hc hcap =>
              have e0 : ∀ {cap : Option Nat}, (∀ k, cap = some k → k = 0) → cap.getD 0 = 0 := fun {cap} hcap => by
                cases cap with
                | none => rfl
                | some k => exact hcap k rfl
              rw [e0 hcap] at hm
              have hm0 := bnd2_le hm (Nat.le_refl _)
              obtain rfl : m = 0 := by omega
              have hh0 := bnd2_le hh (Nat.le_refl _)
              obtain rfl : h' = 0 := by omega
              have hl0 := bnd2_le hl (Nat.le_refl _)
              obtain rfl : l = 0 := by omega
              exact ⟨.nils, by simp only [aslice, bnd2_ok hmx hm, bnd2_ok hhi hh, bnd2_ok hlo hl], .slv hi' hc (by simp)⟩
    · cases hv
  · rename_i esz' els
    split at hv
    · rename_i he
      subst he
      split at hv
      · cases hv
      · rename_i m hm
        split at hv
        · cases hv
        · rename_i h' hh
          split at hv
          · cases hv
          · rename_i l hl
            cases hv
            cases hx with | p hx =>
            cases hx with
            | fz0 =>
              simp only [List.length_nil] at hm hh
              have hm0 := bnd2_le hm (Nat.le_refl _)
              obtain rfl : m = 0 := by omega
              have hh0 := bnd2_le hh (Nat.le_refl _)
              obtain rfl : h' = 0 := by omega
              have hl0 := bnd2_le hl (Nat.le_refl _)
              obtain rfl : l = 0 := by omega
              exact ⟨.nils, by simp only [aslice, bnd2_ok hmx hm, bnd2_ok hhi hh, bnd2_ok hlo hl], .p (by simpa using RP.fz0 _)⟩
            | fz1 =>
              simp only [List.length_nil] at hm hh
              have hm0 := bnd2_le hm (Nat.le_refl _)
              obtain rfl : m = 0 := by omega
              have hh0 := bnd2_le hh (Nat.le_refl _)
              obtain rfl : h' = 0 := by omega
              have hl0 := bnd2_le hl (Nat.le_refl _)
              obtain rfl : l = 0 := by omega
              exact ⟨.es, by simp only [aslice, bnd2_ok hmx hm, bnd2_ok hhi hh, bnd2_ok hlo hl], .p (by simpa using RP.fz1 _)⟩
            | @fz _ _ id off len cap lo' row hf he hlen hc hlo' hr hz hp =>
              obtain ⟨cm, h1, h2, h3, h4, h5⟩ := top_ok hmx (show els.length ≤ cap by omega) hm
              have hh1 : h' ≤ m := by
                by_cases e : hi = none
                · subst e
                  obtain rfl := hno rfl
                  cases hm; cases hh
                  exact Nat.le_refl _
                · exact bnd2_some hh e
              have hl1 : l ≤ h' := bnd2_le hl (Nat.zero_le _)
              rw [hlen] at hh
              refine ⟨_, by simp only [aslice]; rw [if_pos hlo', h1]; simp only [bnd_mono h2 (bnd2_ok hhi hh), bnd2_ok hlo hl]; rfl, .p ?_⟩
              have hmul := Nat.mul_le_mul_right esz' (show l + (h' - l) ≤ len by omega)
              rw [Nat.add_mul] at hmul
              refine .fz hf he (by simp; omega) (by omega) ?_ (by omega) (fun j el hj => ?_) (fun j el t c a hj ht ha => ?_)
              · split
                · exact .inl rfl
                · exact hlo'
              · rw [List.getElem?_drop, List.getElem?_take] at hj
                split at hj
                · exact hz _ _ hj
                · cases hj
              · rw [List.getElem?_drop, List.getElem?_take] at hj
                split at hj
                · refine hp _ _ t c a hj ht ?_
                  rw [Nat.add_mul, ← Nat.add_assoc]
                  exact ha
                · cases hj
    · cases hv
  · cases hv
theorem sls2_ok {x v : SV} {cx : AV} {lo hi : Option SV} {clo chi : Option AV} (hx : RS w n x cx) (hlo : OR w n lo clo) (hhi : OR w n hi chi) (hv : sls2 x lo hi = some v) :
    ∃ cv, astrcut cx clo chi = some cv ∧ RS w n v cv := by
  unfold sls2 at hv
  split at hv
  · cases hx with | p hx => cases hx with | s =>
    split at hv
    · cases hv
    · rename_i h' hh
      split at hv
      · cases hv
      · rename_i l hl
        cases hv
        exact ⟨_, by simp only [astrcut, bnd2_ok hhi hh, bnd2_ok hlo hl], .p (.s _)⟩
  · cases hv
theorem sla2_ok {m esz : Nat} {x v : SV} {cx : AV} {lo hi : Option SV} {clo chi : Option AV} (hx : RS w n x cx) (hlo : OR w n lo clo) (hhi : OR w n hi chi) (hv : sla2 m esz x lo hi = some v) :
    ∃ cv, aarrcut m esz cx clo chi = some cv ∧ RS w n v cv := by
  unfold sla2 at hv
  split at hv
  · cases hx with | ptr hi' hc =>
    split at hv
    · cases hv
    · rename_i h' hh
      split at hv
      · cases hv
      · rename_i l hl
        cases hv
        have := bnd2_le hh (Nat.le_refl _)
        exact ⟨_, by simp only [aarrcut, bnd2_ok hhi hh, bnd2_ok hlo hl]; rfl, .so hi' hc (by omega)⟩
  · cases hv
theorem len2_ok (r : RH w h ch) {x v : SV} {cx : AV} {kd : LK} (hx : RS w h.length x cx) (hv : len2 kd x h = some v) : ∃ cv, alen kd cx ch = some cv ∧ RS w h.length v cv := by
  unfold len2 at hv
  split at hv
  · cases hv; cases hx with | p hx => cases hx with | s => exact ⟨_, rfl, .p (.i _ _)⟩
  · cases hv; cases hx with | p hx => cases hx with | nils => exact ⟨_, rfl, .p (.i _ _)⟩
  · cases hv
    cases hx with
    | sl => exact ⟨_, rfl, .p (.i _ _)⟩
    | slv => exact ⟨_, rfl, .p (.i _ _)⟩
  · cases hv; cases hx with | so => exact ⟨_, rfl, .p (.i _ _)⟩
  · cases hv
    cases hx with | p hx =>
    cases hx with
    | fz0 => exact ⟨_, rfl, .p (.i _ _)⟩
    | fz1 => exact ⟨_, rfl, .p (.i _ _)⟩
    | fz hf he hl => exact ⟨_, rfl, by rw [hl]; exact .p (.i _ _)⟩
  · cases hv; cases hx with | p hx => cases hx with | nilm => exact ⟨_, rfl, .p (.i _ _)⟩
  · split at hv
    · rename_i hb
      cases hv
      cases hx with
      | mp hi hc =>
        obtain ⟨cb, h1, h2⟩ := r.at hb hc
        cases h2 with
        | map hp => exact ⟨_, by simp only [alen, h1]; rfl, by rw [hp.1]; exact .p (.i _ _)⟩
    · cases hv
  · cases hv
/-- the elements that are shown, as cells -/
theorem show2_ok (r : RH w h ch) {esz : Nat} {x : SV} {cx : AV} {els : List (List PV)} (he : 0 < esz) (hx : RS w h.length x cx) (hv : show2 esz x h = some els) :
    ∃ row, ashow esz cx ch = some (els.length, row) ∧ row.length = els.length * esz ∧ ElsR w.fro esz els row 0 ∧ row.any AV.isUn = false := by
  have hun : ∀ {els : List (List PV)} {row : List AV}, row.length = els.length * esz → ElsR w.fro esz els row 0 → row.any AV.isUn = false := fun {els row} hl hr => by
    rw [List.any_eq_false]
    intro a ha
    obtain ⟨i, hi⟩ := List.mem_iff_getElem?.1 ha
    have hil := (List.getElem?_eq_some_iff.1 hi).1
    have hj : i / esz < els.length := by rw [Nat.div_lt_iff_lt_mul he]; omega
    have hel := List.getElem?_eq_getElem hj
    have hsz := hr.2.1 _ _ hel
    have ht : i % esz < (els[i / esz]).length := by rw [hsz]; exact Nat.mod_lt _ he
    have := hr.2.2 _ _ (i % esz) _ a hel (List.getElem?_eq_getElem ht) (by
      have : i / esz * esz + i % esz = i := by rw [Nat.mul_comm]; exact Nat.div_add_mod i esz
      simp only [Nat.zero_add, this]; exact hi)
    rw [this.ne_un]; simp
  have hcut : ∀ {els : List (List PV)} {row : List AV} {off : Nat}, ElsR w.fro esz els row off → (((row.drop off).take (els.length * esz)).length = els.length * esz ∧ ElsR w.fro esz els ((row.drop off).take (els.length * esz)) 0) := fun {els row off} hr => by
    have h0 := hr.1
    refine ⟨by simp; omega, by simp; omega, hr.2.1, fun j el t c a h1 h2 h3 => ?_⟩
    rw [List.getElem?_take] at h3
    split at h3
    · rw [List.getElem?_drop] at h3
      exact hr.2.2 j el t c a h1 h2 (by rw [← h3]; congr 1; omega)
    · cases h3
  unfold show2 at hv
  split at hv
  · cases hv; cases hx with | p hx => cases hx with | nils => exact ⟨[], rfl, by simp, ⟨by simp, fun j el h => by simp at h, fun j el t c a h => by simp at h⟩, rfl⟩
  · rename_i esz' id off len cap
    split at hv
    · rename_i e' els0 hb
      split at hv
      · rename_i hcond
        obtain ⟨rfl, hez, hlen⟩ := hcond
        subst hez
        cases hv
        cases hx with
        | @sl _ _ _ _ _ c ccap lo hi hc _ hcap hl hlo hr =>
          obtain ⟨cb, h1, h2⟩ := r.at hb hc
          cases h2 with
          | @arr _ _ ccs hl' he hels =>
            have hels' : ElsR w.fro esz' ((els0.drop off).take len) ccs (off * esz') := by
              have hm := Nat.mul_le_mul_right esz' hlen
              rw [Nat.add_mul] at hm
              have h0 := hels.1
              refine ⟨?_, fun j el hj => ?_, fun j el t c a hj ht ha => ?_⟩
              · have : ((els0.drop off).take len).length = len := by simp; omega
                rw [this]; omega
              · rw [List.getElem?_take] at hj
                split at hj
                · rw [List.getElem?_drop] at hj; exact hels.2.1 _ _ hj
                · cases hj
              · rw [List.getElem?_take] at hj
                split at hj
                · rw [List.getElem?_drop] at hj
                  refine hels.2.2 _ el t c a hj ht ?_
                  rw [← ha, Nat.add_mul]; congr 1; omega
                · cases hj
            have hll : ((els0.drop off).take len).length = len := by simp; omega
            obtain ⟨h3, h4⟩ := hcut hels'
            have h5 := hun h3 h4
            rw [hll] at h3 h4 h5 ⊢
            refine ⟨_, ?_, h3, h4, h5⟩
            simp only [ashow, AH.rdn, h1]
            have h6 := hels'.1
            rw [hll] at h6
            rw [if_pos ⟨h6, h5⟩]
            rfl
        | slv =>
          have : ((‹List (List PV)›.drop ‹Nat›).take 0) = ([] : List (List PV)) := by simp
          exact ⟨[], by simp [ashow], by simp, ⟨by simp, fun j el h => by simp at h, fun j el t c a h => by simp at h⟩, rfl⟩
      · cases hv
    · cases hv
  · rename_i esz' els
    split at hv
    · rename_i hez
      subst hez
      cases hv
      cases hx with | p hx =>
      cases hx with
      | fz0 => exact ⟨[], rfl, by simp, ⟨by simp, fun j el h => by simp at h, fun j el t c a h => by simp at h⟩, rfl⟩
      | fz1 => exact ⟨[], rfl, by simp, ⟨by simp, fun j el h => by simp at h, fun j el t c a h => by simp at h⟩, rfl⟩
      | @fz _ _ id off len cap lo row hf _ hl hc hlo hr hz hp =>
        subst hl
        obtain ⟨_, ro, hb⟩ := r.fro _ _ hf
        have hels' : ElsR w.fro esz' els row off := ⟨hr, hz, hp⟩
        obtain ⟨h3, h4⟩ := hcut hels'
        have h5 := hun h3 h4
        refine ⟨_, ?_, h3, h4, h5⟩
        simp only [ashow, AH.rdn, hb]
        rw [if_pos ⟨hr, h5⟩]
        rfl
    · cases hv
  · split at hv
    · rename_i h1
      subst h1
      cases hv
      cases hx with | p hx => cases hx with | s =>
      rename_i l
      have h4 : ElsR w.fro 1 (l.map fun c => [PV.i .u8 c.toNat]) (l.map fun c => AV.i .u8 c.toNat) 0 := by
        refine ⟨by simp, fun j el hj => ?_, fun j el t c a hj ht ha => ?_⟩
        · rw [List.getElem?_map] at hj
          cases hl : l[j]? with
          | none => simp [hl] at hj
          | some x => simp [hl] at hj; subst hj; rfl
        · rw [List.getElem?_map] at hj
          cases hl : l[j]? with
          | none => simp [hl] at hj
          | some x =>
            simp [hl] at hj; subst hj
            cases t with
            | zero => simp [hl] at ht ha; subst ht; subst ha; exact .i _ _
            | succ t => simp at ht
      refine ⟨l.map fun c => AV.i .u8 c.toNat, by simp [ashow], by simp, h4, hun (by simp) h4⟩
    · cases hv
  · cases hv
end
end Go.Proofs.Ytpgoemmjhnnmoaa.Ab
