/- The second machine: operations that turn memory. -/
import Derived.Test.YtpgoemmjhnnmoaaSx4
namespace Go.Proofs.Ytpgoemmjhnnmoaa.Ab
open Go
set_option linter.unusedVariables false
/-- an operation of the first machine that does what one of the second says -/
def Ok2 (k : Nat) (w : Wd) (h : SH) (ch : AH) (v : SV) (h' : SH) (r : Option (AV × AH)) : Prop :=
  ∃ cv ch' w', r = some (cv, ch') ∧ RH w' h' ch' ∧ RS w' h'.length v cv ∧ Le h.length w w' ∧ h.length ≤ h'.length ∧ Fr k w h ch w' h' ch'
section
variable {k n : Nat} {w : Wd} {h : SH} {ch : AH}
theorem Ok2.pure (r : RH w h ch) {v : SV} {cv : AV} {o : Option (AV × AH)} (ho : o = some (cv, ch)) (hv : RS w h.length v cv) : Ok2 k w h ch v h o :=
  ⟨cv, ch, w, ho, r, hv, .refl _ _, Nat.le_refl _, .refl _ _ _ _⟩
theorem Ok2.new (r : RH w h ch) {b : B2} {cb : Blk} {len : Nat} {v : SV} {cv : AV} {o : Option (AV × AH)} (ho : o = some (cv, ch.alloc cb))
    (hb : RB (w.add h.length ch.next len) (h.length + 1) ch.next b cb) (hv : RS (w.add h.length ch.next len) (h.length + 1) v cv) : Ok2 k w h ch v (h ++ [some b]) o := by
  obtain ⟨h1, h2⟩ := r.alloc (k := k) hb
  exact ⟨cv, _, _, ho, h1, by simpa using hv, r.addLe len, by simp, h2⟩
theorem Ok2.put (r : RH w h ch) {id c : Nat} {b b' : B2} {ccs' : Blk} {v : SV} {cv : AV} {o : Option (AV × AH)} (hi : bAt h id = some b) (hc : w.ρ id = some c) (ho : o = some (cv, ch.set c (some ccs'))) (hb : RB w h.length c b' ccs') (hv : RS w h.length v cv) :
    Ok2 k w h ch v (h.set id (some b')) o := by
  obtain ⟨h1, h2⟩ := r.set (k := k) (bAt_eq hi) hc hb
  exact ⟨cv, _, w, ho, h1, by simpa using hv, .refl _ _, by simp, h2⟩
theorem add_ρ : (w.add h.length ch.next n).ρ h.length = some ch.next := up_same _ _ _
theorem add_rl : (w.add h.length ch.next n).rl ch.next = n := up_same _ _ _
theorem rs_unit {n : Nat} : RS w n (.tup []) (.tup []) := .tup rfl fun j s a h => by simp at h

theorem ElsR.len {fro : Fro} {esz : Nat} {els : List (List PV)} {row : List AV} (h : ElsR fro esz els row 0) : els.length * esz ≤ row.length := by have := h.1; omega
theorem ElsR.of {fro : Fro} {esz : Nat} {els : List (List PV)} {row : List AV} (h1 : els.length * esz ≤ row.length) (h2 : ∀ (j : Nat) el, els[j]? = some el → el.length = esz)
    (h3 : ∀ (j : Nat) el (t : Nat) c a, els[j]? = some el → el[t]? = some c → t < esz → row[j * esz + t]? = some a → RP fro c a) : ElsR fro esz els row 0 :=
  ⟨by omega, h2, fun j el t c a hj ht ha => h3 j el t c a hj ht (by have := (List.getElem?_eq_some_iff.1 ht).1; rw [h2 j el hj] at this; exact this) (by simpa using ha)⟩
theorem ElsR.at {fro : Fro} {esz : Nat} {els : List (List PV)} {row : List AV} (h : ElsR fro esz els row 0) {j : Nat} {el : List PV} {t : Nat} {c : PV} {a : AV} (hj : els[j]? = some el) (ht : el[t]? = some c) (ha : row[j * esz + t]? = some a) : RP fro c a :=
  h.2.2 j el t c a hj ht (by simpa using ha)
theorem ElsR.nil {fro : Fro} {esz : Nat} {row : List AV} : ElsR fro esz [] row 0 := .of (by simp) (fun j el h => by simp at h) fun j el t c a h => by simp at h
theorem ElsR.append {fro : Fro} {esz : Nat} {xs ys : List (List PV)} {a b : List AV} (h : ElsR fro esz xs a 0) (h' : ElsR fro esz ys b 0) (hl : a.length = xs.length * esz) : ElsR fro esz (xs ++ ys) (a ++ b) 0 := by
  refine .of (by have := h'.len; simp [Nat.add_mul]; omega) (fun j el hj => ?_) fun j el t c u hj ht hlt hu => ?_
  · by_cases hx : j < xs.length
    · rw [List.getElem?_append_left hx] at hj; exact h.2.1 _ _ hj
    · rw [List.getElem?_append_right (by omega)] at hj; exact h'.2.1 _ _ hj
  · by_cases hx : j < xs.length
    · rw [List.getElem?_append_left hx] at hj
      have := Nat.mul_le_mul_right esz (Nat.succ_le_of_lt hx)
      rw [Nat.succ_mul] at this
      rw [List.getElem?_append_left (by omega)] at hu
      exact h.at hj ht hu
    · rw [List.getElem?_append_right (by omega)] at hj
      have := Nat.mul_le_mul_right esz (show xs.length ≤ j by omega)
      rw [List.getElem?_append_right (by omega), hl] at hu
      refine h'.at hj ht ?_
      rw [← hu, Nat.sub_mul]; congr 1; omega
theorem ElsR.take {fro : Fro} {esz : Nat} {xs : List (List PV)} {a : List AV} (h : ElsR fro esz xs a 0) (n : Nat) : ElsR fro esz (xs.take n) a 0 := by
  refine .of ?_ (fun j el hj => ?_) fun j el t c u hj ht hlt hu => ?_
  · have := h.len
    have : (xs.take n).length * esz ≤ xs.length * esz := Nat.mul_le_mul_right _ (by simp; omega)
    omega
  · rw [List.getElem?_take] at hj
    split at hj
    · exact h.2.1 _ _ hj
    · cases hj
  · rw [List.getElem?_take] at hj
    split at hj
    · exact h.at hj ht hu
    · cases hj
/-- a row of which a part is written anew -/
theorem ElsR.splice {fro : Fro} {esz : Nat} {xs ys : List (List PV)} {a b : List AV} (h : ElsR fro esz xs a 0) (h' : ElsR fro esz ys b 0) (hb : b.length = ys.length * esz) {o : Nat} (ho : o + ys.length ≤ xs.length) (he : 0 < esz) :
    ElsR fro esz (xs.take o ++ ys ++ xs.drop (o + ys.length)) (setl a (o * esz) b) 0 := by
  have hlen := h.len
  have hm := Nat.mul_le_mul_right esz ho
  rw [Nat.add_mul] at hm
  have hsz : ∀ (j : Nat) el, (xs.take o ++ ys ++ xs.drop (o + ys.length))[j]? = some el → (if j < o then xs[j]? else if j < o + ys.length then ys[j - o]? else xs[j]?) = some el := fun j el hj => by
    by_cases h1 : j < o
    · rw [if_pos h1]
      rw [List.append_assoc, List.getElem?_append_left (by simp; omega), List.getElem?_take, if_pos h1] at hj
      exact hj
    · rw [if_neg h1]
      rw [List.append_assoc, List.getElem?_append_right (by simp; omega)] at hj
      have hto : (xs.take o).length = o := by simp; omega
      rw [hto] at hj
      by_cases h2 : j < o + ys.length
      · rw [if_pos h2]
        rw [List.getElem?_append_left (by omega)] at hj
        exact hj
      · rw [if_neg h2]
        rw [List.getElem?_append_right (by omega), List.getElem?_drop] at hj
        rw [← hj]; congr 1; omega
  have hl : (xs.take o ++ ys ++ xs.drop (o + ys.length)).length = xs.length := by simp; omega
  refine .of (by rw [hl, setl_setg, setg_length]; exact hlen) (fun j el hj => ?_) fun j el t c u hj ht hlt hu => ?_
  · have := hsz j el hj
    split at this
    · exact h.2.1 _ _ this
    · split at this
      · exact h'.2.1 _ _ this
      · exact h.2.1 _ _ this
  · have h1 := hsz j el hj
    rw [setl_setg, setg_get _ _ _ _ (by omega)] at hu
    split at h1
    · rename_i h2
      have := Nat.mul_le_mul_right esz (Nat.succ_le_of_lt h2)
      rw [Nat.succ_mul] at this
      rw [if_neg (by omega)] at hu
      exact h.at h1 ht hu
    · rename_i h2
      have hjo := Nat.mul_le_mul_right esz (show o ≤ j by omega)
      split at h1
      · rename_i h3
        have := Nat.mul_le_mul_right esz (show j + 1 ≤ o + ys.length by omega)
        rw [Nat.succ_mul, Nat.add_mul] at this
        rw [if_pos (by omega)] at hu
        refine h'.at h1 ht ?_
        rw [← hu, Nat.sub_mul]; congr 1; omega
      · rename_i h3
        have := Nat.mul_le_mul_right esz (show o + ys.length ≤ j by omega)
        rw [Nat.add_mul] at this
        rw [if_neg (by omega)] at hu
        exact h.at h1 ht hu
/-- an element of which a part is written anew -/
theorem ElsR.setEl {fro : Fro} {esz : Nat} {xs : List (List PV)} {a b : List AV} (h : ElsR fro esz xs a 0) {j : Nat} {el : List PV} (hj : xs[j]? = some el) {ps : List PV} {t : Nat} (hp : P2 (RP fro) ps b) (ht : t + ps.length ≤ el.length) :
    ElsR fro esz (xs.set j (setg el t ps)) (setl a (j * esz + t) b) 0 := by
  have hsz := h.2.1 _ _ hj
  have hjl := (List.getElem?_eq_some_iff.1 hj).1
  have hlen := h.len
  have hm := Nat.mul_le_mul_right esz (Nat.succ_le_of_lt hjl)
  rw [Nat.succ_mul] at hm
  have hbl := hp.1
  refine .of (by rw [List.length_set, setl_setg, setg_length]; exact hlen) (fun i e hi => ?_) fun i e s c u hi hs hlt hu => ?_
  · rw [List.getElem?_set] at hi
    split at hi
    · cases hi; rw [setg_length]; exact hsz
    · exact h.2.1 _ _ hi
  · rw [setl_setg, setg_get _ _ _ _ (by omega)] at hu
    rw [List.getElem?_set] at hi
    split at hi
    · rename_i he
      subst he
      cases hi
      rw [setg_get _ _ _ _ ht] at hs
      split at hs
      · rename_i h1
        rw [if_pos (by omega), show j * esz + s - (j * esz + t) = s - t by omega] at hu
        exact hp.2 _ _ _ hs hu
      · rename_i h1
        rw [if_neg (by omega)] at hu
        exact h.at hj hs hu
    · rename_i hne
      have hil := (List.getElem?_eq_some_iff.1 hi).1
      have : ¬ (j * esz + t ≤ i * esz + s ∧ i * esz + s < j * esz + t + b.length) := by
        rcases Nat.lt_or_gt_of_ne hne with h1 | h1
        · have := Nat.mul_le_mul_right esz (Nat.succ_le_of_lt h1)
          rw [Nat.succ_mul] at this
          omega
        · have := Nat.mul_le_mul_right esz (Nat.succ_le_of_lt h1)
          rw [Nat.succ_mul] at this
          omega
      rw [if_neg this] at hu
      exact h.at hi hs hu
theorem ElsR.rep {fro : Fro} {esz : Nat} {zs : List PV} {z : List AV} (hp : P2 (RP fro) zs z) (hl : zs.length = esz) : ∀ (n : Nat), ElsR fro esz (List.replicate n zs) (zeros z n) 0 ∧ (zeros z n).length = n * esz
  | 0 => ⟨.nil, by simp [zeros]⟩
  | n + 1 => by
    obtain ⟨h1, h2⟩ := ElsR.rep hp hl n
    have h3 : ElsR fro esz [zs] z 0 := by
      refine .of (by rw [← hp.1]; simp [hl]) (fun j el hj => ?_) fun j el t c u hj ht hlt hu => ?_
      · cases j with
        | zero => cases hj; exact hl
        | succ j => simp at hj
      · cases j with
        | zero => cases hj; exact hp.2 t c u ht (by simpa using hu)
        | succ j => simp at hj
    refine ⟨?_, by simp [zeros, h2, ← hp.1, hl, Nat.add_mul]; omega⟩
    have := h3.append h1 (by rw [← hp.1]; simp [hl])
    exact this
theorem csts_ok {fro : Fro} : ∀ {z : List AV} {zs : List PV}, csts z = some zs → P2 (RP fro) zs z
  | [], zs, h => by cases h; exact .nil
  | v :: r, zs, h => by
    simp only [csts] at h
    split at h
    · rename_i a l h1 h2
      cases h
      have h3 : RS ⟨fun _ => none, fro, fun _ => 0⟩ 0 (cst v) v := cst_rs v
      rw [h1] at h3
      cases h3 with | p h3 => exact .cons h3 (csts_ok h2)
    · cases h
/-- cells, cut into elements -/
theorem chunk_ok {fro : Fro} {esz : Nat} (he : 0 < esz) : ∀ {n : Nat} {l : List PV} {a : List AV}, P2 (RP fro) l a → l.length = n * esz → ElsR fro esz (chunk esz n l) a 0
  | 0, l, a, hp, hl => .nil
  | n + 1, l, a, hp, hl => by
    rw [Nat.succ_mul] at hl
    have hlt : (l.take esz).length = esz := by simp; omega
    have h1 : ElsR fro esz [l.take esz] (a.take esz) 0 := by
      refine .of (by rw [← (hp.take esz).1]; simp; omega) (fun j el hj => ?_) fun j el t c u hj ht hlt hu => ?_
      · cases j with
        | zero => cases hj; exact hlt
        | succ j => simp at hj
      · cases j with
        | zero => cases hj; exact (hp.take esz).2 t c u ht (by simpa using hu)
        | succ j => simp at hj
    have h2 := chunk_ok he (n := n) (hp.drop esz) (by simp; omega)
    have := h1.append h2 (by rw [← (hp.take esz).1]; simp; omega)
    rw [List.take_append_drop] at this
    exact this

theorem st2_ok (r : RH w h ch) {a v : SV} {ca cv : AV} (ha : RS w h.length a ca) (hv : RS w h.length v cv) {sz : Nat} {h' : SH} (hs : st2 sz a v h = some h') : Ok2 k w h ch (.tup []) h' (astore sz ca cv ch) := by
  unfold st2 at hs
  split at hs
  · cases hs
  · rename_i vs hcl
    obtain ⟨cvs, hccl, hpv⟩ := hv.cl hcl
    split at hs
    · rename_i hlen
      split at hs
      · rename_i id0 off0
        split at hs
        · rename_i hb
          split at hs
          · rename_i hfit
            cases hs
            cases ha with
            | ptr hi hc =>
              obtain ⟨cb, h1, h2⟩ := r.at hb hc
              cases h2 with
              | @obj _ ccs hl hp =>
                refine .put r hb hc (ccs' := .row (setl ccs off0 cvs) false) ?_ (.obj (by rw [setl_setg, setg_length]; exact hl) ?_) rs_unit
                · simp only [astore, hccl, AH.wr, h1]
                  rw [if_pos (by rw [← hpv.1]; exact hlen), if_pos (by rw [← hpv.1, ← hp.1]; exact hfit)]
                  rfl
                · rw [setl_setg]; exact hp.setg _ hpv
          · cases hs
        · cases hs
      · rename_i esz0 id0 j0 t0
        split at hs
        · rename_i hb
          split at hs
          · rename_i he
            subst he
            split at hs
            · rename_i el ps hel hps
              split at hs
              · rename_i hfit
                cases hs
                cases ha with
                | ep hi hc =>
                  obtain ⟨cb, h1, h2⟩ := r.at hb hc
                  cases h2 with
                  | @arr _ _ ccs hl he hels =>
                    obtain rfl := pvs_eq hps
                    have hpp : P2 (RP w.fro) ps cvs := by
                      refine ⟨by have := hpv.1; simpa using this, fun j x y hx hy => ?_⟩
                      have := hpv.2 j (.p x) y (by simp [hx]) hy
                      cases this with | p h => exact h
                    have hsz := hels.2.1 _ _ hel
                    have hjl := (List.getElem?_eq_some_iff.1 hel).1
                    have hm := Nat.mul_le_mul_right el.length (Nat.succ_le_of_lt hjl)
                    rw [Nat.succ_mul, hsz] at hm
                    have hll := hels.len
                    refine .put r hb hc (ccs' := .row (setl ccs (j0 * _ + t0) cvs) false) ?_ (.arr (by rw [setl_setg, setg_length]; exact hl) he (hels.setEl hel hpp hfit)) rs_unit
                    simp only [astore, hccl, AH.wr, h1]
                    rw [if_pos (by rw [← hpv.1]; exact hlen), if_pos (by rw [← hpp.1]; omega)]
                    rfl
              · cases hs
            · cases hs
          · cases hs
        · cases hs
      · cases hs
    · cases hs
theorem ElsR.over {fro : Fro} {esz : Nat} {xs ys : List (List PV)} {a b : List AV} (h : ElsR fro esz xs a 0) (h' : ElsR fro esz ys b 0) (hb : b.length = ys.length * esz) (hl : xs.length * esz + b.length ≤ a.length) :
    ElsR fro esz (xs ++ ys) (setl a (xs.length * esz) b) 0 := by
  refine .of (by rw [setl_setg, setg_length, List.length_append, Nat.add_mul]; omega) (fun j el hj => ?_) fun j el t c u hj ht hlt hu => ?_
  · by_cases hx : j < xs.length
    · rw [List.getElem?_append_left hx] at hj; exact h.2.1 _ _ hj
    · rw [List.getElem?_append_right (by omega)] at hj; exact h'.2.1 _ _ hj
  · rw [setl_setg, setg_get _ _ _ _ hl] at hu
    by_cases hx : j < xs.length
    · rw [List.getElem?_append_left hx] at hj
      have := Nat.mul_le_mul_right esz (Nat.succ_le_of_lt hx)
      rw [Nat.succ_mul] at this
      rw [if_neg (by omega)] at hu
      exact h.at hj ht hu
    · have hjl := (List.getElem?_eq_some_iff.1 hj).1
      rw [List.length_append] at hjl
      rw [List.getElem?_append_right (by omega)] at hj
      have h1 := Nat.mul_le_mul_right esz (show xs.length ≤ j by omega)
      have h2 := Nat.mul_le_mul_right esz (show j + 1 ≤ xs.length + ys.length by omega)
      rw [Nat.succ_mul, Nat.add_mul] at h2
      rw [if_pos (by omega)] at hu
      refine h'.at hj ht ?_
      rw [← hu, Nat.sub_mul]; congr 1; omega
/-- a row made of what a slice shows and of what comes behind -/
theorem app2_ok (r : RH w h ch) {s x v : SV} {cs cx : AV} (hs : RS w h.length s cs) (hx : RS w h.length x cx) {esz bytes : Nat} {h' : SH} (ho : app2 esz bytes s x h = some (v, h')) : Ok2 k w h ch v h' (aapp esz bytes cs cx ch) := by
  unfold app2 at ho
  split at ho
  · cases ho
  rename_i new hsh
  split at ho
  rotate_left
  · cases ho
  rename_i hpos
  obtain ⟨he, hby⟩ := hpos
  obtain ⟨row, h1, h2, h3, h4⟩ := show2_ok r he hx hsh
  unfold aapp
  simp only [h1, he, hby, and_self, if_true]
  split at ho
  · split at ho
    rotate_left
    · cases ho
    rename_i hroom
    cases ho
    cases hs with | p hs => cases hs with | nils =>
    simp only
    by_cases h0 : new.length = 0
    · have : new = [] := List.length_eq_zero_iff.1 h0
      subst this
      obtain ⟨r1, r2, r3⟩ := r.virt (k := k) esz
      refine ⟨.nils, ch, _, by simp, r1, .slv (by simp) (up_same _ _ _) (by simp), r2, by simp, r3⟩
    · refine .new r (cb := .row row false) (len := row.length) (by rw [if_neg h0, if_pos hroom]) ?_ ?_
      · exact .arr add_rl.symm he (h3.mono (fun _ _ h => h))
      · have := RS.sl (w := w.add h.length ch.next row.length) (n := h.length + 1) (id := h.length) (off := 0) (len := new.length) (cap := none) (ccap := new.length) (lo := esz) (Nat.lt_succ_self _) add_ρ he (by simp) (Nat.le_refl _) (.inr rfl) (by rw [add_rl]; omega)
        simpa using this
  · rename_i esz' id off len cap
    split at ho
    rotate_left
    · cases ho
    rename_i e' els hb
    split at ho
    rotate_left
    · cases ho
    rename_i hez
    obtain ⟨rfl, hez⟩ := hez
    subst hez
    split at ho
    · -- it moves
      split at ho
      rotate_left
      · cases ho
      rename_i hcond
      obtain ⟨rfl, hlen, hroom⟩ := hcond
      cases ho
      have htl : (els.take len).length = len := by simp; omega
      cases hs with
      | @sl _ _ _ _ _ c ccap lo hi hc _ hcap hl hlo hr =>
        obtain ⟨cb, b1, b2⟩ := r.at hb hc
        cases b2 with
        | @arr _ _ ccs hl' _ hels =>
          have hcl := r.lt id c hi hc
          have hm := Nat.mul_le_mul_right esz' hlen
          have hln := hels.len
          have hmc := Nat.mul_le_mul_right esz' hl
          have hshow := show2_ok r he (RS.sl (cap := none) hi hc he hcap hl hlo hr) (esz := esz') (els := (els.drop 0).take len) (by simp only [show2, hb]; rw [if_pos ⟨trivial, trivial, by omega⟩])
          obtain ⟨old, o1, o2, o3, o4⟩ := hshow
          simp only [Nat.zero_mul, Nat.zero_add, List.drop_zero] at hr o1 o2 o3 ⊢
          rw [htl] at o2
          by_cases hfit : len + new.length ≤ ccap
          · -- in its place
            rw [if_pos hfit]
            have hmf := Nat.mul_le_mul_right esz' hfit
            rw [Nat.add_mul] at hmf
            obtain ⟨ch', hwr, e1, e2, e3⟩ : ∃ ch', (if new.length = 0 then some (AV.sl c 0 len ccap lo, ch) else Option.map (fun h' => (AV.sl c 0 (len + new.length) ccap lo, h')) (ch.wr c (len * esz') row)) = some (.sl c 0 (len + new.length) ccap lo, ch') ∧
                ch'.next = ch.next ∧ (∀ d, d ≠ c → ch'.blk d = ch.blk d) ∧ ch'.blk c = some (.row (setl ccs (len * esz') row) false) := by
              by_cases h0 : new.length = 0
              · have hr0 : row = [] := List.length_eq_zero_iff.1 (by rw [h2, h0]; omega)
                refine ⟨ch, by rw [if_pos h0, h0]; rfl, rfl, fun _ _ => rfl, ?_⟩
                subst hr0; exact b1
              · refine ⟨ch.set c (some (.row (setl ccs (len * esz') row) false)), ?_, rfl, fun d hd => by simp [AH.set, hd], by simp [AH.set]⟩
                rw [if_neg h0]
                simp only [AH.wr, b1]
                rw [if_pos (by omega)]
                rfl
            have hnew : ElsR w.fro esz' (els.take len ++ new) (setl ccs (len * esz') row) 0 := by
              have := (hels.take len).over h3 h2 (by rw [htl]; omega)
              rwa [htl] at this
            obtain ⟨m1, m2, m3⟩ := r.move (k := k) (bAt_eq hb) (b' := .arr esz' (els.take len ++ new)) (c' := some c) (ch' := ch') (rl := w.rl) (by omega) (fun d hd hne => e2 d (fun e => hne (by rw [hc, e]))) (fun _ _ => rfl)
              (fun d hd => by cases hd; exact ⟨by omega, .inl hc⟩) (fun d hd => by cases hd; exact ⟨_, e3, .arr (by rw [setl_setg, setg_length]; exact hl') he hnew⟩) (fun h => by cases h)
            refine ⟨_, ch', w.mv h.length (some c) w.rl, hwr, m1, ?_, m2, by simp, m3⟩
            have := RS.sl (w := w.mv h.length (some c) w.rl) (n := h.length + 1) (id := h.length) (off := 0) (len := len + new.length) (cap := none) (ccap := ccap) (lo := lo) (Nat.lt_succ_self _) (up_same _ _ _) he (by simp) hfit hlo (by show 0 * esz' + ccap * esz' ≤ w.rl c; omega)
            simpa using this
          · rw [if_neg hfit, if_pos hroom]
            have hold : ch.rdn c 0 (len * esz') = some old := by
              simp only [ashow, Option.map_eq_some_iff] at o1
              obtain ⟨z, hz, hz'⟩ := o1
              rw [← (Prod.mk.inj hz').2]
              exact hz
            have hnl : (old ++ row).length = (len + new.length) * esz' := by rw [List.length_append, o2, h2, Nat.add_mul]
            obtain ⟨ch', hgr, e1, e2, e3⟩ : ∃ ch', (if lo = 0 then some (AV.sl ch.next 0 (len + new.length) (len + new.length) esz', ch.alloc (.row (old ++ row) false)) else
                match ch.blk c with
                | some (.row _ false) => if True ∧ lo = esz' then some (AV.sl ch.next 0 (len + new.length) (len + new.length) esz', (ch.set c none).alloc (.row (old ++ row) false)) else none
                | _ => none) = some (AV.sl ch.next 0 (len + new.length) (len + new.length) esz', ch') ∧ ch'.next = ch.next + 1 ∧ (∀ d, d ≠ c → d < ch.next → ch'.blk d = ch.blk d) ∧ ch'.blk ch.next = some (.row (old ++ row) false) := by
              by_cases h0 : lo = 0
              · exact ⟨ch.alloc (.row (old ++ row) false), by rw [if_pos h0], rfl, fun d _ hd => by simp only [AH.alloc]; rw [if_neg (by omega)], by simp [AH.alloc]⟩
              · have hle := hlo.resolve_left h0
                refine ⟨(ch.set c none).alloc (.row (old ++ row) false), by rw [if_neg h0, b1]; simp only [hle, and_self, if_true], rfl, fun d hd1 hd => ?_, by simp [AH.alloc, AH.set]⟩
                simp [AH.alloc, AH.set, hd1, Nat.ne_of_lt hd]
            obtain ⟨m1, m2, m3⟩ := r.move (k := k) (bAt_eq hb) (b' := .arr esz' (els.take len ++ new)) (c' := some ch.next) (ch' := ch') (rl := up w.rl ch.next ((len + new.length) * esz')) (by omega) (fun d hd hne => e2 d (fun e => hne (by rw [hc, e])) hd) (fun d hd => up_ne _ _ (by omega))
              (fun d hd => by cases hd; exact ⟨by omega, .inr (Nat.le_refl _)⟩) (fun d hd => by cases hd; exact ⟨_, e3, .arr (by rw [hnl]; exact (up_same _ _ _).symm) he (o3.append h3 (by rw [htl]; exact o2))⟩) (fun h => by cases h)
            refine ⟨AV.sl ch.next 0 (len + new.length) (len + new.length) esz', ch', _, ?_, m1, ?_, m2, by simp, m3⟩
            · simp only [hold]
              exact hgr
            · have := RS.sl (w := w.mv h.length (some ch.next) (up w.rl ch.next ((len + new.length) * esz'))) (n := h.length + 1) (id := h.length) (off := 0) (len := len + new.length) (cap := none) (ccap := len + new.length) (lo := esz') (Nat.lt_succ_self _) (up_same _ _ _) he (by simp) (Nat.le_refl _) (.inr rfl)
                (by show 0 * esz' + (len + new.length) * esz' ≤ up w.rl ch.next ((len + new.length) * esz') ch.next; rw [up_same]; omega)
              simpa using this
      | slv hi hc hcap =>
        simp only [Nat.zero_add, List.take_zero, List.nil_append] at hroom ⊢
        by_cases h0 : new.length = 0
        · have : new = [] := List.length_eq_zero_iff.1 h0
          subst this
          obtain ⟨m1, m2, m3⟩ := r.move (k := k) (bAt_eq hb) (b' := .arr esz' []) (c' := none) (ch' := ch) (rl := w.rl) (Nat.le_refl _) (fun _ _ _ => rfl) (fun _ _ => rfl) (fun d hd => by cases hd) (fun d hd => by cases hd) (fun _ => ⟨_, rfl⟩)
          refine ⟨.nils, ch, _, by simp, m1, ?_, m2, by simp, m3⟩
          exact .slv (by simp) (up_same _ _ _) (by simp)
        · obtain ⟨m1, m2, m3⟩ := r.move (k := k) (bAt_eq hb) (b' := .arr esz' new) (c' := some ch.next) (ch' := ch.alloc (.row row false)) (rl := up w.rl ch.next row.length) (Nat.le_succ _) (fun d hd hne => by simp only [AH.alloc]; rw [if_neg (by omega)]) (fun d hd => up_ne _ _ (by omega))
              (fun d hd => by cases hd; exact ⟨Nat.lt_succ_self _, .inr (Nat.le_refl _)⟩) (fun d hd => by cases hd; exact ⟨.row row false, by simp [AH.alloc], .arr (up_same _ _ _).symm he h3⟩) (fun h => by cases h)
          refine ⟨.sl ch.next 0 new.length new.length esz', ch.alloc (.row row false), _, by rw [if_neg h0, if_pos hroom], m1, ?_, m2, by simp, m3⟩
          have := RS.sl (w := w.mv h.length (some ch.next) (up w.rl ch.next row.length)) (n := h.length + 1) (id := h.length) (off := 0) (len := new.length) (cap := none) (ccap := new.length) (lo := esz') (Nat.lt_succ_self _) (up_same _ _ _) he (by simp) (Nat.le_refl _) (.inr rfl)
                (by show 0 * esz' + new.length * esz' ≤ up w.rl ch.next row.length ch.next; rw [up_same]; omega)
          simpa using this
    · -- there is room
      rename_i m
      split at ho
      rotate_left
      · cases ho
      rename_i hcond
      obtain ⟨hfit, hin⟩ := hcond
      cases ho
      cases hs with
      | @sl _ _ _ _ _ c ccap lo hi hc _ hcap hl hlo hr =>
        obtain ⟨cb, b1, b2⟩ := r.at hb hc
        cases b2 with
        | @arr _ _ ccs hl' _ hels =>
          have hcm := hcap m rfl
          simp only
          rw [if_pos (show len + new.length ≤ ccap by omega)]
          have hmf := Nat.mul_le_mul_right esz' (show off + len + new.length ≤ off + ccap by omega)
          rw [Nat.add_mul, Nat.add_mul off ccap] at hmf
          have hrs : RS w h.length (.sl esz' id off (len + new.length) (some m)) (.sl c (off * esz') (len + new.length) ccap lo) := .sl hi hc he (fun k hk => by cases hk; omega) (by omega) hlo hr
          have hspl := hels.splice (o := off + len) h3 h2 (by omega) he
          by_cases h0 : new.length = 0
          · have hr0 : row = [] := List.length_eq_zero_iff.1 (by rw [h2, h0]; omega)
            have hn0 : new = [] := List.length_eq_zero_iff.1 h0
            subst hn0
            have e : els.take (off + len) ++ [] ++ els.drop (off + len + ([] : List (List PV)).length) = els := by simp
            rw [e]
            have e2 : h.set id (some (.arr esz' els)) = h := by
              apply List.ext_getElem?
              intro i
              rw [List.getElem?_set]
              split
              · rename_i hi'; subst hi'; rw [bAt_eq hb]; (try simp [hi])
              · rfl
            rw [e2]
            refine .pure r (by rw [if_pos h0]) ?_
            exact hrs
          · refine .put r hb hc (ccs' := .row (setl ccs ((off + len) * esz') row) false) (cv := .sl c (off * esz') (len + new.length) ccap lo) ?_ (.arr (by rw [setl_setg, setg_length]; exact hl') he hspl) hrs
            rw [if_neg h0]
            simp only [AH.wr, b1]
            rw [← Nat.add_mul, if_pos (by omega)]
            rfl
      | slv hi hc hcap =>
        have := hcap m rfl
        subst this
        have h0 : new.length = 0 := by omega
        have hn0 : new = [] := List.length_eq_zero_iff.1 h0
        subst hn0
        have e : els.take (off + 0) ++ [] ++ els.drop (off + 0 + ([] : List (List PV)).length) = els := by simp
        rw [e]
        have e2 : h.set id (some (.arr esz' els)) = h := by
          apply List.ext_getElem?
          intro i
          rw [List.getElem?_set]
          split
          · rename_i hi'; subst hi'; rw [bAt_eq hb]; (try simp [hi])
          · rfl
        rw [e2]
        exact .pure r (by simp) (.slv hi hc hcap)
  · cases ho
end
end Go.Proofs.Ytpgoemmjhnnmoaa.Ab
