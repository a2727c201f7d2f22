/- The operations, part four: what makes memory; append, copy, clear, make. -/
import Derived.Test.YtpgoemmjhnnmoaaAbOps3
import Derived.Laws.Tables
namespace Go.Proofs.Ytpgoemmjhnnmoaa.Ab
open Go
set_option linter.unusedVariables false
section
variable {P : Program} {lk : Lk} {ρ : Rho} {h : AH} {w : World}

/-! ### a slice, or a text, that is shown -/
theorem show_sound (r : Rel lk ρ h w) {esz n : Nat} {u : AV} {cs : List AV} {a : Value} (hu : VE lk ρ u a) (hr : ashow esz u h = some (n, cs)) :
    (Builtin.lenOf a).run P w = .ok n w ∧ ∃ xs : List Value, (Builtin.firstCells esz n a).run P w = .ok xs.toArray w ∧ F2 (VC lk ρ) cs xs ∧ cs.length = n * esz := by
  unfold ashow at hr
  split at hr
  · cases hr
    obtain rfl := hu.nils
    exact ⟨rfl, [], by simp [Builtin.firstCells], trivial, by simp⟩
  · cases hr
    obtain ⟨ad, rfl⟩ := hu.es
    exact ⟨rfl, [], by simp [Builtin.firstCells, loadCells, loadCellsFrom], trivial, by simp⟩
  · rename_i id off m cap lo
    obtain ⟨b, t, o, c, hid, g0, g1, g2, g3, g4, rfl⟩ := hu.sl
    cases hv : h.rdn id off (m * esz) with
    | none => simp [hv] at hr
    | some z =>
      simp [hv] at hr
      obtain ⟨rfl, rfl⟩ := hr
      refine ⟨rfl, ?_⟩
      obtain ⟨xs, h1, h2, h3, _⟩ := rdn_sound (P := P) r hid hv
      have hlen : z.length = m * esz := by rw [h2.length, h3]
      rcases Nat.eq_zero_or_pos (m * esz) with h0 | h0
      · have hz : z = [] := List.eq_nil_of_length_eq_zero (by omega)
        subst hz
        refine ⟨[], ?_, trivial, hlen⟩
        simp [Builtin.firstCells, h0, loadCells, loadCellsFrom]
      · have hm : 0 < m := Nat.pos_of_mul_pos_right h0
        have ho : o = off := g3.resolve_right (by omega)
        subst ho
        exact ⟨xs, by simp [Builtin.firstCells, h1], h2, hlen⟩
  · rename_i l
    split at hr
    · rename_i he
      cases hr
      subst he
      obtain ⟨y, hy, rfl⟩ := hu.s
      have hsz : l.length = y.size := by rw [← hy]; simp
      refine ⟨by simp [Builtin.lenOf, hsz], l.map fun c => .int .u8 c.toNat, ?_, ?_, by simp⟩
      · simp only [Builtin.firstCells, Sem.run_pure]
        congr 1
        rw [← hy]
        have : y = ⟨y.data.toList.toArray⟩ := by cases y; simp
        rw [this, ByteArray.extract_mk]
        simp only [List.drop_zero, Nat.sub_zero]
        rw [List.take_of_length_le (by simp)]
        apply Array.ext'
        simp
      · clear hy hsz hu
        induction l with
        | nil => trivial
        | cons c l ih => exact ⟨VC.i _ _, ih⟩
    · cases hr
  · cases hr

/-! ### append -/
structure AppK (P : Program) (sT xT e : TypeId) (esz bytes : Nat) (i : TypeInfo) (z : Value) : Prop where
  hs : P.underlying sT = some (.slice e)
  hx : (∃ e', P.underlying xT = some (.slice e')) ∨ P.underlying xT = some .string
  hi : P.info? e = some i
  hz : i.zero = some z
  hsz : i.size = esz
  hby : i.bytes = bytes
  hzs : z.cells.size = esz
def appK (P : Program) (ts : Array TypeId) (esz bytes : Nat) : Bool :=
  match ts.toList with
  | [sT, xT] =>
    match P.underlying sT with
    | some (.slice e) =>
      (match P.underlying xT with | some (.slice _) | some .string => true | _ => false) &&
      (match P.info? e with
       | some i => decide (i.size = esz) && decide (i.bytes = bytes) && (match i.zero with | some z => decide (z.cells.size = esz) | none => false)
       | none => false)
    | _ => false
  | _ => false
theorem appK_spec {ts : Array TypeId} {esz bytes : Nat} (h : appK P ts esz bytes = true) : ∃ sT xT e i z, ts = #[sT, xT] ∧ AppK P sT xT e esz bytes i z := by
  unfold appK at h
  split at h
  · rename_i sT xT h0
    split at h
    · rename_i e he
      simp only [Bool.and_eq_true] at h
      obtain ⟨h2, h3⟩ := h
      cases hi : P.info? e with
      | none => simp [hi] at h3
      | some i =>
        simp only [hi, Bool.and_eq_true, decide_eq_true_eq] at h3
        obtain ⟨⟨h4, h5⟩, h6⟩ := h3
        cases hz : i.zero with
        | none => simp [hz] at h6
        | some z =>
          simp only [hz, decide_eq_true_eq] at h6
          refine ⟨sT, xT, e, i, z, by rw [← Array.toArray_toList (xs := ts), h0], ⟨he, ?_, hi, hz, h4, h5, h6⟩⟩
          cases hd : P.underlying xT with
          | none => simp [hd] at h2
          | some d => cases d <;> simp [hd] at h2 <;> first | exact .inl ⟨_, rfl⟩ | exact .inr rfl
    · cases h
  · cases h
/-- append in its place; and where it grows -/
theorem append_fits {sT xT e ty : TypeId} {esz bytes : Nat} {i : TypeInfo} {z : Value} (k : AppK P sT xT e esz bytes i z) {base : Option Addr} {sLen sCap n : Nat} {x : Value} {new : List Value}
    (hl : (Builtin.lenOf x).run P w = .ok n w) (hn : (Builtin.firstCells esz n x).run P w = .ok new.toArray w) (hfit : sLen + n ≤ sCap) {w' : World}
    (hst : match base with | some a => (storeCells (a.add (sLen * esz)) new).run P w = .ok () w' | none => w' = w) :
    (Builtin.append_ #[sT, xT] ty #[.slice base sLen sCap, x]).run P w = .ok (.slice base (sLen + n) sCap) w' := by
  have hsz := k.hsz
  subst hsz
  have hs1 : ∀ (w : World), (sizeOf e).run P w = .ok i.size w := fun w => by simp [sizeOf, typeInfo, k.hi]
  have hu := @run_underlying P sT _ k.hs
  rcases k.hx with ⟨e', hd⟩ | hd
  all_goals
    cases base with
    | none => subst hst; simp [Builtin.append_, hu, run_underlying hd, hs1, hl, hfit, hn]
    | some a => simp [Builtin.append_, hu, run_underlying hd, hs1, hl, hfit, hn, hst]
theorem append_grows {sT xT e ty : TypeId} {esz bytes : Nat} {i : TypeInfo} {z : Value} (k : AppK P sT xT e esz bytes i z) {base : Option Addr} {sLen sCap n : Nat} {x : Value} {new old : List Value}
    (hl : (Builtin.lenOf x).run P w = .ok n w) (hn : (Builtin.firstCells esz n x).run P w.drew = .ok new.toArray w.drew) (hgrow : sCap < sLen + n) (hroom : (sLen + n) * bytes ≤ room) (hb : 0 < bytes)
    (hold : (Builtin.firstCells esz sLen (.slice base sLen sCap)).run P w.drew = .ok old.toArray w.drew) :
    ∃ cap, sLen + n ≤ cap ∧ (Builtin.append_ #[sT, xT] ty #[.slice base sLen sCap, x]).run P w =
        .ok (.slice (some ⟨w.heap.size, 0, none⟩) (sLen + n) cap) (w.drew.alloc (.cells (old.toArray ++ new.toArray ++ Builtin.zeroCells z.cells (cap - (sLen + n))) e)) := by
  have hsz := k.hsz
  subst hsz
  have hby := k.hby
  subst hby
  have h48' : ¬ (281474976710656 < Builtin.nextslicecap (sLen + n) sCap * i.bytes) := by
    have := growslice_fits (bytes := i.bytes) hgrow (by simpa [room] using hroom)
    omega
  have hnb : ¬ i.bytes = 0 := by omega
  have hno : ¬ sLen + n ≤ sCap := by omega
  have hs1 : ∀ (w : World), (sizeOf e).run P w = .ok i.size w := fun w => by simp [sizeOf, typeInfo, k.hi]
  have hu := @run_underlying P sT _ k.hs
  refine ⟨grownCap w (sLen + n) sCap e, grownCap_ge _ _ _ _, ?_⟩
  rcases k.hx with ⟨e', hd⟩ | hd
  all_goals simp [Builtin.append_, hu, run_underlying hd, hs1, hl, hno, typeInfo, zeroValue, k.hi, k.hz, h48', hnb, hold, hn, Question.forced, grownCap, newRow]
  all_goals
    congr 2
    apply Array.ext'
    simp [List.append_assoc]
theorem setA_get : ∀ (vs : List Value) (o : Nat) (cur : Array Value) (j : Nat), o + vs.length ≤ cur.size → (setA cur o vs)[j]? = if o ≤ j ∧ j < o + vs.length then vs[j - o]? else cur[j]?
  | [], o, cur, j, _ => by simp only [setA, List.length_nil]; rw [if_neg (by omega)]
  | v :: r, o, cur, j, hl => by
    simp only [List.length_cons] at hl
    rw [setA, setA_get r (o + 1) _ j (by simp; omega)]
    by_cases h1 : o + 1 ≤ j ∧ j < o + 1 + r.length
    · rw [if_pos h1, if_pos (by simp only [List.length_cons]; omega), show j - o = (j - (o + 1)) + 1 by omega]
      rfl
    · rw [if_neg h1]
      by_cases h2 : j = o
      · subst h2
        rw [if_pos (by simp only [List.length_cons]; omega)]
        simp [show j < cur.size by omega]
      · rw [Array.getElem?_setIfInBounds_ne (Ne.symm h2), if_neg (by simp only [List.length_cons]; omega)]
theorem size_zeroCells' (z : Array Value) (n : Nat) : (Builtin.zeroCells z n).size = n * z.size := by simp [Builtin.zeroCells]
/-- a new row out of what is known, and of zeros -/
theorem Rel.grown (r : Rel lk ρ h w) (f : ρ h.next = none) {cs : List AV} {xs : List Value} {zs : Array Value} (hx : F2 (VC lk ρ) cs xs) (e : TypeId) :
    Rel lk (ρ.add h.next w.heap.size (xs.length + zs.size)) (h.alloc (.row cs false)) (w.alloc (.cells (xs.toArray ++ zs) e)) ∧
      Stp ρ h w (ρ.add h.next w.heap.size (xs.length + zs.size)) (h.alloc (.row cs false)) (w.alloc (.cells (xs.toArray ++ zs) e)) := by
  have := r.allocRow f (cs := cs) (cur := xs.toArray ++ zs) (ty := e) (fz := (0, 0)) (by have := hx.length; simp; omega) (fun j _ => by simp) (fun j x hj => by
    obtain ⟨y, h1, h2⟩ := hx.get hj
    have hlt := (List.getElem?_eq_some_iff.1 h1).1
    exact ⟨y, by rw [Array.getElem?_append_left (by simpa using hlt)]; simpa using h1, h2⟩)
  simpa using this
theorem Stp.drew_then {ρ' : Rho} {h' : AH} {w' : World} (s : Stp ρ h w.drew ρ' h' w') : Stp ρ h w ρ' h' w' := (Stp.drew ρ h w).trans s

theorem aapp_sound (r : Rel lk ρ h w) {ts : Array TypeId} {ty : TypeId} {esz bytes : Nat} {u x v : AV} {a c : Value} {h' : AH} (ht : appK P ts esz bytes = true) (f : Free ρ h.next h'.next) (hu : VE lk ρ u a) (hx : VE lk ρ x c)
    (hr : aapp esz bytes u x h = some (v, h')) : ∃ y w' ρ', (Builtin.append_ ts ty #[a, c]).run P w = .ok y w' ∧ VE lk ρ' v y ∧ Rel lk ρ' h' w' ∧ Stp ρ h w ρ' h' w' := by
  obtain ⟨sT, xT, e, i, z, rfl, k⟩ := appK_spec ht
  unfold aapp at hr
  split at hr
  · cases hr
  · rename_i n new hsh
    obtain ⟨hl, xs, hn, hxs, hlen⟩ := show_sound (P := P) r hx hsh
    obtain ⟨_, xs', hn', hxs', _⟩ := show_sound (P := P) r.drew hx hsh
    have hl' : ∀ (h2 : AH), h'.next = h.next + 1 → ρ h.next = none := fun h2 e => f h.next (Nat.le_refl _) (by omega)
    split at hr
    · rename_i hpos
      have room2 : ∀ {m cap : Nat}, m + n ≤ cap → z.cells.size = esz → ∀ (old : List Value), old.length = m * esz → cap * esz ≤ (old ++ xs').length + (Builtin.zeroCells z.cells (cap - (m + n))).size := by
        intro m cap hmn hz old ho
        have hxl := hxs'.length
        rw [List.length_append, size_zeroCells', hz, ho, ← hxl, hlen, ← Nat.add_mul, ← Nat.add_mul]
        exact Nat.mul_le_mul_right _ (by omega)
      split at hr
      · obtain rfl := hu.nils
        split at hr
        · rename_i hn0
          cases hr
          subst hn0
          exact ⟨_, w, ρ, append_fits k hl hn (Nat.le_refl 0) rfl, VC.nils.e, r, .refl _ _ _⟩
        · rename_i hn0
          split at hr
          · rename_i hroom
            cases hr
            obtain ⟨cap, hcap, hrun⟩ := append_grows (ty := ty) k (base := none) (sLen := 0) (sCap := 0) (old := []) hl hn' (by omega) (by simpa using hroom) hpos.2 (by simp [Builtin.firstCells])
            have hf := hl' h rfl
            have hg := Rel.grown r.drew hf (zs := Builtin.zeroCells z.cells (cap - (0 + n))) hxs' e
            have h2 := room2 hcap k.hzs [] (by simp)
            refine ⟨_, _, _, hrun, ?_, by simpa using hg.1, Stp.drew_then (by simpa using hg.2)⟩
            simp only [Nat.zero_add] at hcap ⊢
            refine (VC.sl (Rho.add_same _ _ _ _) (Nat.le_refl _) hcap (fun h0 => by omega) (.inl rfl) (fun _ => ?_)).e
            simpa using h2
          · cases hr
      · obtain ⟨ad, rfl⟩ := hu.es
        split at hr
        · rename_i hn0
          cases hr
          subst hn0
          have hnew : xs = [] := List.eq_nil_of_length_eq_zero (by rw [← hxs.length, hlen]; simp)
          subst hnew
          exact ⟨_, w, ρ, append_fits k hl hn (Nat.le_refl 0) rfl, (VC.es _).e, r, .refl _ _ _⟩
        · rename_i hn0
          split at hr
          · rename_i hroom
            cases hr
            obtain ⟨cap, hcap, hrun⟩ := append_grows (ty := ty) k (base := some ad) (sLen := 0) (sCap := 0) (old := []) hl hn' (by omega) (by simpa using hroom) hpos.2 (by simp [Builtin.firstCells, loadCells, loadCellsFrom])
            have hf := hl' h rfl
            have hg := Rel.grown r.drew hf (zs := Builtin.zeroCells z.cells (cap - (0 + n))) hxs' e
            have h2 := room2 hcap k.hzs [] (by simp)
            refine ⟨_, _, _, hrun, ?_, by simpa using hg.1, Stp.drew_then (by simpa using hg.2)⟩
            simp only [Nat.zero_add] at hcap ⊢
            refine (VC.sl (Rho.add_same _ _ _ _) (Nat.le_refl _) hcap (fun h0 => by omega) (.inl rfl) (fun _ => ?_)).e
            simpa using h2
          · cases hr
      · rename_i id off len cap lo
        obtain ⟨b, t, o, c', hid, g0, g1, g2, g3, g4, rfl⟩ := hu.sl
        split at hr
        · rename_i hfit
          split at hr
          · rename_i hn0
            cases hr
            subst hn0
            have hnew : xs = [] := List.eq_nil_of_length_eq_zero (by rw [← hxs.length, hlen]; simp)
            subst hnew
            exact ⟨_, w, ρ, append_fits k hl hn (by omega) rfl, hu, r, .refl _ _ _⟩
          · rename_i hn0
            cases hw : h.wr id (off + len * esz) new with
            | none => simp [hw] at hr
            | some h2 =>
              simp [hw] at hr
              obtain ⟨rfl, rfl⟩ := hr
              have ho : o = off := g3.resolve_right (by omega)
              subst ho
              obtain ⟨h3, h4, h5⟩ := wr_sound (P := P) r hid hw hxs
              exact ⟨_, _, ρ, append_fits k hl hn (by omega) (by simpa [Addr.add_lit] using h3), (VC.sl hid hfit g1 g2 (.inl rfl) g4).e, h4, h5⟩
        · rename_i hfit
          split at hr
          · rename_i hroom
            cases ho : h.rdn id off (len * esz) with
            | none => simp [ho] at hr
            | some old =>
              simp only [ho] at hr
              have hsho : ashow esz (.sl id off len cap lo) h = some (len, old) := by simp [ashow, ho]
              obtain ⟨_, os, hos, hfo, hlo⟩ := show_sound (P := P) r.drew hu hsho
              have hol : os.length = len * esz := by rw [← hfo.length, hlo]
              -- a new block
              have fresh : ∀ (h0 : AH), h0.next = h.next → Rel lk ρ h0 w.drew → Stp ρ h w.drew ρ h0 w.drew → c' < len + n → ρ h.next = none →
                  ∃ y w' ρ', (Builtin.append_ #[sT, xT] ty #[.slice (some ⟨b, o, none⟩) len c', c]).run P w = .ok y w' ∧ VE lk ρ' (.sl h.next 0 (len + n) (len + n) esz) y ∧
                    Rel lk ρ' (h0.alloc (.row (old ++ new) false)) w' ∧ Stp ρ h w ρ' (h0.alloc (.row (old ++ new) false)) w' := by
                intro h0 hn0 r0 s0 hlt hf
                obtain ⟨cap', hcap, hrun⟩ := append_grows (ty := ty) k hl hn' hlt hroom hpos.2 hos
                have hg := Rel.grown r0 (by rw [hn0]; exact hf) (zs := Builtin.zeroCells z.cells (cap' - (len + n))) (hfo.append hxs') e
                have h2 := room2 hcap k.hzs os hol
                rw [show (os.toArray ++ xs'.toArray) = (os ++ xs').toArray by simp] at hrun
                refine ⟨_, _, _, hrun, ?_, hg.1, Stp.drew_then (s0.trans hg.2)⟩
                rw [hn0]
                exact (VC.sl (Rho.add_same _ _ _ _) (Nat.le_refl _) hcap (fun h0 => by omega) (.inl rfl) (fun _ => by simpa using h2)).e
              split at hr
              · rename_i hlo0
                cases hr
                exact fresh h rfl r.drew (.refl _ _ _) (by have := g2 hlo0; omega) (hl' h rfl)
              · rename_i hlo0
                split at hr
                · rename_i cs hb
                  split at hr
                  · rename_i hoff
                    obtain ⟨rfl, rfl⟩ := hoff
                    cases hr
                    have hf := hl' h rfl
                    by_cases hc : len + n ≤ c'
                    · have ho0 : o = 0 := g3.resolve_right (by omega)
                      subst ho0
                      obtain ⟨cur, ty', fz, h1, h2, h3, h4, h5⟩ := r.row hid hb
                      have hxl := hxs.length
                      have hle : (len + n) * lo ≤ t := Nat.le_trans (Nat.mul_le_mul_right _ hc) (by have := g4 hlo0; omega)
                      rw [Nat.add_mul] at hle
                      have hst := run_storeRow (P := P) (o := len * lo) xs h1 (by rw [← hxl, hlen]; omega) (by subst h2; exact h4 rfl) hxs.one
                      have hcs : old = cs.take (len * lo) := by
                        unfold AH.rdn at ho
                        rw [hb] at ho
                        simp only [Nat.zero_add, List.drop_zero] at ho
                        split at ho
                        · cases ho; rfl
                        · cases ho
                      have hm := r.move hf hid hb (cs' := old ++ new) (o := len * lo) (xs := xs) (by rw [List.length_append, hlo, hlen]; omega) (fun cur2 q1 q2 j y hy => by
                        rw [setA_get _ _ _ _ (by rw [← hxl, hlen]; omega)]
                        rw [List.getElem?_append] at hy
                        split at hy
                        · rename_i hj
                          rw [if_neg (by omega)]
                          rw [hcs, List.getElem?_take] at hy
                          split at hy
                          · exact q1 j y hy
                          · cases hy
                        · rename_i hj
                          obtain ⟨q, q3, q4⟩ := hxs.get hy
                          have := (List.getElem?_eq_some_iff.1 q3).1
                          rw [hlo] at hj q3
                          rw [if_pos (by rw [hlo] at this; omega)]
                          exact ⟨q, q3, q4.u⟩)
                      refine ⟨_, _, _, append_fits k hl hn hc (by simpa [Addr.add_lit] using hst), ?_, hm.1, hm.2⟩
                      exact (VC.sl (Rho.add_same _ _ _ _) (Nat.le_refl _) hc (fun h0 => absurd h0 hlo0) (.inl rfl) (fun _ => by have := g4 hlo0; omega)).e
                    · have hk := r.drew.kill id hid
                      exact fresh (h.set id none) rfl hk.1 hk.2 (by omega) hf
                  · cases hr
                · cases hr
          · cases hr
      · cases hr
    · cases hr
end
end Go.Proofs.Ytpgoemmjhnnmoaa.Ab
