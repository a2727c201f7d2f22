/- The second machine: each operation is one of the first. -/
import Derived.Test.YtpgoemmjhnnmoaaSx5
namespace Go.Proofs.Ytpgoemmjhnnmoaa.Ab
open Go
set_option linter.unusedVariables false
section
variable {k n : Nat} {w : Wd} {h : SH} {ch : AH}
theorem cpy2_ok (r : RH w h ch) {d s v : SV} {cd cs : AV} (hd : RS w h.length d cd) (hs : RS w h.length s cs) {esz : Nat} {h' : SH} (ho : cpy2 esz d s h = some (v, h')) : Ok2 k w h ch v h' (acopy esz cd cs ch) := by
  unfold cpy2 at ho
  split at ho
  · cases ho
  rename_i new hsh
  split at ho
  · rename_i esz' id off len cap
    split at ho
    · rename_i e' els hb
      split at ho
      rotate_left
      · cases ho
      rename_i hcond
      obtain ⟨he, rfl, rfl, hin⟩ := hcond
      cases ho
      obtain ⟨row, h1, h2, h3, h4⟩ := show2_ok r he hs hsh
      unfold acopy
      simp only [h1]
      cases hd with
      | @sl _ _ _ _ _ c ccap lo hi hc _ hcap hl hlo hr =>
        obtain ⟨cb, b1, b2⟩ := r.at hb hc
        cases b2 with
        | @arr _ _ ccs hl' _ hels =>
          have hmin : (new.take len).length = min new.length len := by simp [Nat.min_comm]
          have hrow : ElsR w.fro esz' (new.take len) (row.take (min new.length len * esz')) 0 := by
            have h5 := h3.take len
            refine .of ?_ h5.2.1 fun j el t c' a hj ht hlt ha => ?_
            · rw [hmin, List.length_take, h2]
              have := Nat.mul_le_mul_right esz' (Nat.min_le_left new.length len)
              omega
            · rw [List.getElem?_take] at ha
              split at ha
              · exact h5.at hj ht ha
              · cases ha
          have hrl : (row.take (min new.length len * esz')).length = (new.take len).length * esz' := by
            rw [hmin, List.length_take, h2]
            have := Nat.mul_le_mul_right esz' (Nat.min_le_left new.length len)
            omega
          have hspl := hels.splice (o := off) hrow hrl (by rw [hmin]; omega) he
          rw [hmin] at hspl
          simp only
          by_cases h0 : min new.length len = 0
          · have hz : new.take len = [] := List.length_eq_zero_iff.1 (by omega)
            rw [hz, h0] at hspl ⊢
            have e : els.take off ++ [] ++ els.drop (off + 0) = els := by simp
            rw [e]
            have e2 : h.set id (some (.arr esz' els)) = h := by
              apply List.ext_getElem?
              intro i
              rw [List.getElem?_set]
              split
              · rename_i hi'; subst hi'; rw [bAt_eq hb]; (try simp [hi])
              · rfl
            rw [e2]
            exact .pure r rfl (.p (.i _ _))
          · refine .put r hb hc (ccs' := .row (setl ccs (off * esz') (row.take (min new.length len * esz'))) false) (cv := .i .i64 (min new.length len : Nat)) ?_ (.arr (by rw [setl_setg, setg_length]; exact hl') he hspl) (.p (.i _ _))
            rw [if_neg h0]
            simp only [AH.wr, b1]
            have hm := Nat.mul_le_mul_right esz' (show off + min new.length len ≤ els.length by omega)
            rw [Nat.add_mul] at hm
            have := hels.len
            rw [if_pos (by rw [hrl, hmin]; omega)]
            rfl
      | slv hi hc hcap =>
        have hz : new.take 0 = [] := by simp
        have e : els.take off ++ new.take 0 ++ els.drop (off + min new.length 0) = els := by simp
        rw [e]
        have e2 : h.set id (some (.arr esz' els)) = h := by
          apply List.ext_getElem?
          intro i
          rw [List.getElem?_set]
          split
          · rename_i hi'; subst hi'; rw [bAt_eq hb]; (try simp [hi])
          · rfl
        rw [e2]
        exact .pure r rfl (by simpa using RS.p (.i _ _))
    · cases ho
  · cases ho
theorem clr2_ok (r : RH w h ch) {x v : SV} {cx : AV} (hx : RS w h.length x cx) {esz : Nat} {z : List AV} {h' : SH} (ho : clr2 esz z x h = some (v, h')) : Ok2 k w h ch v h' (aclear esz z cx ch) := by
  unfold clr2 at ho
  split at ho
  · cases ho
    cases hx with | p hx => cases hx with | nils => exact .pure r rfl rs_unit
  · rename_i esz' id off len cap
    split at ho
    · rename_i e' els zs hb hz
      split at ho
      rotate_left
      · cases ho
      rename_i hcond
      obtain ⟨he, rfl, rfl, hin, hzl⟩ := hcond
      cases ho
      have hzp := csts_ok (fro := w.fro) hz
      obtain ⟨hrep, hrl⟩ := ElsR.rep hzp hzl len
      cases hx with
      | @sl _ _ _ _ _ c ccap lo hi hc _ hcap hl hlo hr =>
        obtain ⟨cb, b1, b2⟩ := r.at hb hc
        cases b2 with
        | @arr _ _ ccs hl' _ hels =>
          have hspl := hels.splice (o := off) hrep (by simp [hrl]) (by simpa using hin) he
          rw [List.length_replicate] at hspl
          unfold aclear
          simp only
          by_cases h0 : len = 0
          · subst h0
            have e : els.take off ++ List.replicate 0 zs ++ els.drop (off + 0) = els := by simp
            rw [e]
            have e2 : h.set id (some (.arr esz' els)) = h := by
              apply List.ext_getElem?
              intro i
              rw [List.getElem?_set]
              split
              · rename_i hi'; subst hi'; rw [bAt_eq hb]; (try simp [hi])
              · rfl
            rw [e2]
            exact .pure r rfl rs_unit
          · refine .put r hb hc (ccs' := .row (setl ccs (off * esz') (zeros z len)) false) (cv := .tup []) ?_ (.arr (by rw [setl_setg, setg_length]; exact hl') he hspl) rs_unit
            rw [if_neg h0, if_pos (by rw [← hzp.1]; exact hzl)]
            simp only [AH.wr, b1]
            have hm := Nat.mul_le_mul_right esz' hin
            rw [Nat.add_mul] at hm
            have := hels.len
            rw [if_pos (by rw [hrl]; omega)]
            rfl
      | slv hi hc hcap =>
        have e : els.take off ++ List.replicate 0 zs ++ els.drop (off + 0) = els := by simp
        rw [e]
        have e2 : h.set id (some (.arr esz' els)) = h := by
          apply List.ext_getElem?
          intro i
          rw [List.getElem?_set]
          split
          · rename_i hi'; subst hi'; rw [bAt_eq hb]; (try simp [hi])
          · rfl
        rw [e2]
        exact .pure r rfl rs_unit
    · cases ho
  · cases ho
theorem mks2_ok (r : RH w h ch) {l c v : SV} {cl cc : AV} (hl : RS w h.length l cl) (hc : RS w h.length c cc) {esz bytes : Nat} {z : List AV} {h' : SH} (ho : mks2 esz bytes z l c h = some (v, h')) : Ok2 k w h ch v h' (amake esz bytes z cl cc ch) := by
  unfold mks2 at ho
  split at ho
  · rename_i l c zs hz
    split at ho
    · rename_i hcond
      obtain ⟨h1, h2, h3, h4, h5, h6⟩ := hcond
      cases ho
      cases hl with | p hl => cases hl with | i =>
      cases hc with | p hc => cases hc with | i =>
      have hzp := csts_ok (fro := w.fro) hz
      obtain ⟨hrep, hrl⟩ := ElsR.rep hzp h5 c.toNat
      have hmul := Nat.mul_le_mul_right esz (show l.toNat ≤ c.toNat by omega)
      refine .new r (cb := .row (zeros z c.toNat) false) (len := c.toNat * esz) (cv := .sl ch.next 0 l.toNat c.toNat 0) ?_ (.arr (by rw [add_rl]; exact hrl) h6 ?_) ?_
      · simp only [amake]
        rw [if_pos ⟨h1, h2, h3, h4, by rw [← hzp.1]; exact h5⟩]
      · have := hrep.take l.toNat
        rw [List.take_replicate, Nat.min_eq_left (by omega)] at this
        exact this.mono (fun _ _ h => h)
      · have := RS.sl (w := w.add h.length ch.next (c.toNat * esz)) (n := h.length + 1) (id := h.length) (off := 0) (len := l.toNat) (cap := none) (ccap := c.toNat) (lo := 0) (Nat.lt_succ_self _) add_ρ h6 (by simp) (by omega) (.inl rfl) (by rw [add_rl]; omega)
        simpa using this
    · cases ho
  · cases ho
theorem fills2_ok {e : SE} {ce : Env} (he : RE w n e ce) : ∀ {ps : List (Nat × Nat × AX)} {z cs : List SV} {cz : List AV}, P2 (RS w n) z cz → fills2 e z ps = some cs → ∃ ccs, fills ce cz ps = some ccs ∧ P2 (RS w n) cs ccs
  | [], z, cs, cz, hz, hf => by cases hf; exact ⟨cz, rfl, hz⟩
  | (o, m, x) :: ps, z, cs, cz, hz, hf => by
    simp only [fills2] at hf
    split at hf
    · rename_i vs hcl
      split at hf
      · rename_i hc
        obtain ⟨cvs, h1, h2⟩ := (evs_rs he x).cl hcl
        obtain ⟨ccs, h3, h4⟩ := fills2_ok he (hz.setg o h2) hf
        refine ⟨ccs, ?_, h4⟩
        simp only [fills, h1]
        rw [if_pos ⟨by rw [← h2.1]; exact hc.1, by rw [← hz.1]; exact hc.2⟩, setl_setg]
        exact h3
      · cases hf
    · cases hf
theorem sptr_ok {v : SV} {a : AV} (hv : RS w n v a) (hp : sptr v = true) : ∃ id o, a = .ptr id o := by
  cases hv with
  | p h => cases h <;> first | (simp [sptr] at hp; done) | exact ⟨_, _, rfl⟩
  | ptr => exact ⟨_, _, rfl⟩
  | ep => exact ⟨_, _, rfl⟩
  | _ => simp [sptr] at hp
theorem ptrs_ok : ∀ {l : List SV} {cl : List AV}, P2 (RS w n) l cl → l.all sptr = true → ∃ qs, ptrs cl = some qs ∧ l.length = qs.length ∧ ∀ (j : Nat) s q, l[j]? = some s → qs[j]? = some q → RS w n s (.ptr q.1 q.2)
  | [], cl, hp, _ => by
    have : cl = [] := List.length_eq_zero_iff.1 hp.1.symm
    subst this; exact ⟨[], rfl, rfl, fun j s q h => by simp at h⟩
  | v :: l, cl, hp, ha => by
    cases cl with
    | nil => have := hp.1; simp at this
    | cons a cl =>
      simp only [List.all_cons, Bool.and_eq_true] at ha
      have hv := hp.2 0 v a rfl rfl
      obtain ⟨id, o, rfl⟩ := sptr_ok hv ha.1
      obtain ⟨qs, h1, h2, h3⟩ := ptrs_ok (l := l) (cl := cl) ⟨by have := hp.1; simpa using this, fun j x y hx hy => hp.2 (j + 1) x y (by simpa using hx) (by simpa using hy)⟩ ha.2
      refine ⟨(id, o) :: qs, by simp [ptrs, h1], by simp [h2], fun j s q hs hq => ?_⟩
      cases j with
      | zero => simp at hs hq; subst hs; subst hq; exact hv
      | succ j => simp at hs hq; exact h3 j s q hs hq
theorem aeq2_ok {kd : EK} {x y : SV} {cx cy : AV} {b : Bool} (hx : RS w n x cx) (hy : RS w n y cy) (hv : aeq2 kd x y = some b) : aeq kd cx cy = some b := by
  unfold aeq2 at hv
  split at hv
  · cases hv; cases hx with | p hx => cases hx with | b => cases hy with | p hy => cases hy with | b => rfl
  · cases hv; cases hx with | p hx => cases hx with | nilp => cases hy with | p hy => cases hy with | nilp => rfl
  · split at hv
    · rename_i hp; cases hv; obtain ⟨id, o, rfl⟩ := sptr_ok hx hp; cases hy with | p hy => cases hy with | nilp => rfl
    · cases hv
  · split at hv
    · rename_i hp; cases hv; obtain ⟨id, o, rfl⟩ := sptr_ok hy hp; cases hx with | p hx => cases hx with | nilp => rfl
    · cases hv
  · cases hv; cases hx with | p hx => cases hx with | nils => cases hy with | p hy => cases hy with | nils => rfl
  · cases hv; cases hx with | p hx => cases hx with | fz => cases hy with | p hy => cases hy with | nils => rfl
  · cases hv; cases hx with | sl => cases hy with | p hy => cases hy with | nils => rfl
  · cases hv; cases hx with | p hx => cases hx with | nilm => cases hy with | p hy => cases hy with | nilm => rfl
  · cases hv; cases hx with | mp => cases hy with | p hy => cases hy with | nilm => rfl
  · cases hv; cases hx with | p hx => cases hx with | nilf => cases hy with | p hy => cases hy with | nilf => rfl
  · cases hv; cases hx with | fn => cases hy with | p hy => cases hy with | nilf => rfl
  · split at hv
    · rename_i a b h1 h2
      cases hx with | agg x1 x2 => cases hy with | agg y1 y2 =>
      have hpx : P2 (RS w n) _ _ := ⟨x1, x2⟩
      have hpy : P2 (RS w n) _ _ := ⟨y1, y2⟩
      rw [scs_eq hpx h1, scs_eq hpy h2]
      exact hv
    · cases hv
  · cases hv
theorem bytes2_ok {fro : Fro} : ∀ {els : List (List PV)} {row : List AV} {l : List UInt8}, row.length = els.length * 1 → ElsR fro 1 els row 0 → bytes2 els = some l → bytesOf row = some l
  | [], row, l, hl, hr, hb => by
    have : row = [] := List.length_eq_zero_iff.1 (by simpa using hl)
    subst this; cases hb; rfl
  | el :: els, row, l, hl, hr, hb => by
    cases row with
    | nil => simp at hl
    | cons a row =>
      unfold bytes2 at hb
      split at hb
      · rename_i e; cases e
      · rename_i n r e
        cases e
        simp only [Option.map_eq_some_iff] at hb
        obtain ⟨l', h1, rfl⟩ := hb
        have ha := hr.at (j := 0) (t := 0) (el := [PV.i .u8 n]) rfl rfl rfl
        cases ha with
        | i =>
          have h2 : ElsR fro 1 els row 0 := .of (by simp at hl; omega) (fun j e he => hr.2.1 (j + 1) e (by simpa using he)) fun j e t c u he ht hlt hu => by
            have : t = 0 := by omega
            subst this
            exact hr.at (j := j + 1) (t := 0) (by simpa using he) ht (by simpa using hu)
          rw [bytesOf, bytes2_ok (by simpa using hl) h2 h1]
          rfl
      · cases hb
theorem key2_eq {v : SV} {a c : AV} (h : RS w n v c) (hs : key2 v = some a) : c = a := by
  unfold key2 at hs
  split at hs
  · simp only [Option.map_eq_some_iff] at hs
    obtain ⟨l, h1, rfl⟩ := hs
    cases h with
    | agg h2 h3 => rw [scs_eq ⟨h2, h3⟩ h1]
  · exact sc_eq h hs
def FindR (w : Wd) (n : Nat) : Option (Nat × SV) → Option (Nat × AV × Nat) → Prop
  | none, none => True
  | some (i, v), some (ci, cv, _) => i = ci ∧ RS w n v cv
  | _, _ => False
theorem kfind2_ok {kk : KK} {kv : SV} {ck : AV} (hk : RS w n kv ck) : ∀ {es : List (SV × SV)} {ces : List (AV × AV × Nat)} {j : Nat} {r : Option (Nat × SV)}, P2 (fun x y => RS w n x.1 y.1 ∧ RS w n x.2 y.2.1) es ces → kfind2 kk kv es j = some r →
    ∃ cr, kfind kk ck ces j = some cr ∧ FindR w n r cr
  | [], ces, j, r, hp, hr => by
    have : ces = [] := List.length_eq_zero_iff.1 hp.1.symm
    subst this; cases hr; exact ⟨none, rfl, trivial⟩
  | (x, v) :: es, ces, j, r, hp, hr => by
    cases ces with
    | nil => have := hp.1; simp at this
    | cons y ces =>
      obtain ⟨cx, cv, b⟩ := y
      have h0 : RS w n x cx ∧ RS w n v cv := hp.2 0 (x, v) (cx, cv, b) rfl rfl
      simp only [kfind2] at hr
      have hkq : ∀ {q : Bool}, keyq2 kk kv x = some q → keyq kk ck cx = some q := fun {q} hq => by
        unfold keyq2 at hq
        split at hq
        · rename_i a b h1 h2
          rw [key2_eq hk h1, key2_eq h0.1 h2]; exact hq
        · cases hq
      split at hr
      · rename_i hq; cases hr; exact ⟨some (j, cv, b), by simp only [kfind, hkq hq], rfl, h0.2⟩
      · rename_i hq
        obtain ⟨cr, h1, h2⟩ := kfind2_ok hk (es := es) (ces := ces) (j := j + 1) ⟨by have := hp.1; simpa using this, fun i x y hx hy => hp.2 (i + 1) x y (by simpa using hx) (by simpa using hy)⟩ hr
        exact ⟨cr, by simp only [kfind, hkq hq]; exact h1, h2⟩
      · cases hr
theorem mapAt_ok (r : RH w h ch) {m : SV} {cm : AV} (hm : RS w h.length m cm) {id : Nat} {es : List (SV × SV)} (hv : mapAt m h = some (id, es)) :
    ∃ c ces cl, cm = .mp c ∧ w.ρ id = some c ∧ bAt h id = some (.map es) ∧ ch.blk c = some (.map ces cl) ∧ P2 (fun x y => RS w h.length x.1 y.1 ∧ RS w h.length x.2 y.2.1) es ces := by
  unfold mapAt at hv
  split at hv
  · split at hv
    · rename_i hb
      cases hv
      cases hm with
      | mp hi hc =>
        obtain ⟨cb, h1, h2⟩ := r.at hb hc
        cases h2 with
        | map hp => exact ⟨_, _, _, rfl, hc, hb, h1, hp⟩
    · cases hv
  · cases hv
theorem mfind_ok {kk : KK} {kv : SV} {ck : AV} (hk : RS w n kv ck) {es : List (SV × SV)} {ces : List (AV × AV × Nat)} {r : Option (Nat × SV)} (hp : P2 (fun x y => RS w n x.1 y.1 ∧ RS w n x.2 y.2.1) es ces) (hr : mfind kk kv es = some r) :
    ∃ cr, (if kok kk ck then kfind kk ck ces 0 else none) = some cr ∧ FindR w n r cr := by
  unfold mfind at hr
  split at hr
  · rename_i hok
    obtain ⟨cr, h1, h2⟩ := kfind2_ok hk hp hr
    refine ⟨cr, ?_, h2⟩
    unfold kok2 at hok
    split at hok
    · rename_i a ha
      rw [key2_eq hk ha] at h1 ⊢
      rw [if_pos hok]; exact h1
    · cases hok
  · cases hr
theorem zv_rs (z : AV) : RS w n (lkp2.zv z) z := by
  unfold lkp2.zv
  split
  · exact .agg (cst_map (w := w) (n := n) _).1 (cst_map _).2
  · exact cst_rs _
theorem rs_pair {a b : SV} {ca cb : AV} (ha : RS w n a ca) (hb : RS w n b cb) : RS w n (.tup [a, b]) (.tup [ca, cb]) := by
  have hp : P2 (RS w n) [a, b] [ca, cb] := .cons ha (.one hb)
  exact .tup hp.1 hp.2
theorem lkp2_ok (r : RH w h ch) {kk : KK} {z : AV} {ok : Bool} {m kv v : SV} {cm ck : AV} (hm : RS w h.length m cm) (hk : RS w h.length kv ck) (hv : lkp2 kk z ok m kv h = some v) : ∃ cv, alookup kk z ok cm ck ch = some (cv, ch) ∧ RS w h.length v cv := by
  unfold lkp2 at hv
  split at hv
  · cases hv
  · rename_i id es hma
    obtain ⟨c, ces, cl, rfl, hc, hb, h1, hp⟩ := mapAt_ok r hm hma
    have hz := zv_rs (w := w) (n := h.length) z
    split at hv
    · cases hv
    · rename_i hf
      cases hv
      obtain ⟨cr, h2, h3⟩ := mfind_ok hk hp hf
      cases cr with
      | some x => exact False.elim h3
      | none =>
        refine ⟨if ok then .tup [z, .b false] else z, ?_, ?_⟩
        · simp only [alookup, amapof, h1, h2]
        · cases ok
          · exact hz
          · exact rs_pair hz (.p (.b _))
    · rename_i i v0 hf
      cases hv
      obtain ⟨cr, h2, h3⟩ := mfind_ok hk hp hf
      cases cr with
      | none => exact False.elim h3
      | some x =>
        obtain ⟨ci, cv, b⟩ := x
        refine ⟨if ok then .tup [cv, .b true] else cv, ?_, ?_⟩
        · simp only [alookup, amapof, h1, h2]
        · cases ok
          · exact h3.2
          · exact rs_pair h3.2 (.p (.b _))
theorem mup2_ok (r : RH w h ch) {kk : KK} {m kv v : SV} {cm ck cv : AV} (hm : RS w h.length m cm) (hk : RS w h.length kv ck) (hvv : RS w h.length v cv) {h' : SH} (hv : mup2 kk m kv v h = some h') :
    Ok2 k w h ch (.tup []) h' (if ck.cl.isSome ∧ cv.cl.isSome then amapput kk cm ck cv ch else none) := by
  unfold mup2 at hv
  split at hv
  · cases hv
  · rename_i id es hma
    obtain ⟨c, ces, cl, rfl, hc, hb, h1, hp⟩ := mapAt_ok r hm hma
    split at hv
    rotate_left
    · cases hv
    rename_i hcl
    obtain ⟨k1, hk1⟩ := Option.isSome_iff_exists.1 hcl.1
    obtain ⟨v1, hv1⟩ := Option.isSome_iff_exists.1 hcl.2
    obtain ⟨ck1, hck1, _⟩ := hk.cl hk1
    obtain ⟨cv1, hcv1, _⟩ := hvv.cl hv1
    rw [if_pos ⟨by rw [hck1]; rfl, by rw [hcv1]; rfl⟩]
    split at hv
    · cases hv
    · rename_i hf
      cases hv
      obtain ⟨cr, h2, h3⟩ := mfind_ok hk hp hf
      cases cr with
      | some x => exact False.elim h3
      | none =>
        refine .put r hb hc (ccs' := .map (ces ++ [(ck, cv, cl)]) (cl + 1)) ?_ (.map (hp.append (.one ⟨hk, hvv⟩))) rs_unit
        simp only [amapput, amapof, h1, h2]
    · rename_i i v0 hf
      cases hv
      obtain ⟨cr, h2, h3⟩ := mfind_ok hk hp hf
      cases cr with
      | none => exact False.elim h3
      | some x =>
        obtain ⟨ci, cv0, b⟩ := x
        have h3 : i = ci ∧ RS w h.length v0 cv0 := h3
        obtain ⟨rfl, _⟩ := h3
        refine .put r hb hc (ccs' := .map (ces.set i (ck, cv, b)) cl) ?_ (.map (hp.set i ⟨hk, hvv⟩)) rs_unit
        simp only [amapput, amapof, h1, h2]
theorem del2_ok (r : RH w h ch) {kk : KK} {m kv : SV} {cm ck : AV} (hm : RS w h.length m cm) (hk : RS w h.length kv ck) {h' : SH} (hv : del2 kk m kv h = some h') :
    Ok2 k w h ch (.tup []) h' (adel kk cm ck ch) := by
  unfold del2 at hv
  split at hv
  · cases hv
  · rename_i id es hma
    obtain ⟨c, ces, cl, rfl, hc, hb, h1, hp⟩ := mapAt_ok r hm hma
    split at hv
    · cases hv
    · rename_i hf
      cases hv
      obtain ⟨cr, h2, h3⟩ := mfind_ok hk hp hf
      cases cr with
      | some x => exact False.elim h3
      | none => exact .pure r (by simp only [adel, amapof, h1, h2]) rs_unit
    · rename_i i v0 hf
      cases hv
      obtain ⟨cr, h2, h3⟩ := mfind_ok hk hp hf
      cases cr with
      | none => exact False.elim h3
      | some x =>
        obtain ⟨ci, cv0, b⟩ := x
        have h3 : i = ci ∧ RS w h.length v0 cv0 := h3
        obtain ⟨rfl, _⟩ := h3
        refine .put r hb hc (ccs' := .map (ces.eraseIdx i) cl) ?_ (.map (hp.eraseIdx i)) rs_unit
        simp only [adel, amapof, h1, h2]
end
end Go.Proofs.Ytpgoemmjhnnmoaa.Ab
