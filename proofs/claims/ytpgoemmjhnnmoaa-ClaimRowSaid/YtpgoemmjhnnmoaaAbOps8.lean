/- The operations, part eight: what is done with maps. -/
import Derived.Test.YtpgoemmjhnnmoaaAbOps7
namespace Go.Proofs.Ytpgoemmjhnnmoaa.Ab
open Go
set_option linter.unusedVariables false
section
variable {P : Program} {lk : Lk} {ρ : Rho} {h : AH} {w : World}

def mapK (P : Program) (t : TypeId) (kk : KK) : Bool :=
  match P.underlying t with
  | some (.map k _) => keyT P k kk
  | _ => false
theorem mapK_spec {t : TypeId} {kk : KK} (h : mapK P t kk = true) : ∃ k e, P.underlying t = some (.map k e) ∧ keyT P k kk = true := by
  unfold mapK at h
  split at h
  · exact ⟨_, _, by assumption, h⟩
  · cases h
def lkpK (P : Program) (t : TypeId) (kk : KK) (z : AV) : Bool :=
  match P.underlying t with
  | some (.map k e) => keyT P k kk && (match zT P e with | some zv => chkZV zv z | none => false)
  | _ => false
theorem mapof_sound (r : Rel lk ρ h w) {u : AV} {a : Value} {id cl : Nat} {es : List (AV × AV × Nat)} (hu : VE lk ρ u a) (hm : amapof u h = some (id, es, cl)) :
    ∃ b t, ∃ es' : Array MapEntry, ρ id = some (b, t) ∧ h.blk id = some (.map es cl) ∧ a = .map (some b) ∧ w.heap[b]? = some (.map es' cl) ∧ F2 (ME lk ρ) es es'.toList := by
  unfold amapof at hm
  split at hm
  · obtain ⟨b, t, hid, rfl⟩ := hu.mp
    split at hm
    · rename_i hb
      cases hm
      obtain ⟨es', h1, h2⟩ := r.map hid hb
      exact ⟨b, t, es', hid, hb, rfl, h1, h2⟩
    · cases hm
  · cases hm
theorem F2.get' {α β : Type} {R : α → β → Prop} {xs : List α} {ys : List β} (h : F2 R xs ys) {j : Nat} {x : α} {y : β} (hx : xs[j]? = some x) (hy : ys[j]? = some y) : R x y := by
  obtain ⟨z, h1, h2⟩ := h.get hx
  rw [hy] at h1
  cases h1
  exact h2
theorem alookup_sound (r : Rel lk ρ h w) {t : TypeId} {kk : KK} {z m k v : AV} {ok : Bool} {a c : Value} {h' : AH} (ht : lkpK P t kk z = true) (hu : VE lk ρ m a) (hk : VE lk ρ k c) (hr : alookup kk z ok m k h = some (v, h')) :
    ∃ x, (Instr.lookup t a c ok).run P w = .ok x w ∧ VE lk ρ v x ∧ h' = h := by
  unfold lkpK at ht
  split at ht
  · rename_i kt et hd
    simp only [Bool.and_eq_true] at ht
    obtain ⟨hkt, hz⟩ := ht
    cases hzt : zT P et with
    | none => simp [hzt] at hz
    | some zv =>
      simp only [hzt] at hz
      have hzr : VR lk ρ z zv := chkZV_sound hz
      have vo : ∀ {u : AV} {x : Value}, VR lk ρ u x → ∀ b : Bool, VE lk ρ (if ok then .tup [u, .b b] else u) (if ok then .tuple #[x, .bool b] else x) := fun hu b => by
        cases ok
        · exact hu.e
        · exact .tup ⟨.one hu, .one (.cell (.b _)), trivial⟩
      unfold alookup at hr
      split at hr
      · obtain rfl := hu.nilm
        split at hr
        · rename_i hok
          cases hr
          refine ⟨_, ?_, vo hzr false, rfl⟩
          have hc := check_sound (P := P) (w := w) hkt hok hk true
          have hf : (Instr.findKey kt c []).run P w = .ok none w := by
            rcases find_sound (P := P) (w := w) (es := []) (xs := []) hkt hok hk trivial rfl with ⟨_, h2⟩ | ⟨i, v, n, x, h1, _⟩
            · exact h2
            · cases h1
          simp [Instr.lookup, run_underlying hd, hc, hf, run_zT hzt]
        · cases hr
      · split at hr
        · cases hr
        · rename_i id es cl hm
          obtain ⟨b, t', es', hid, hb, rfl, h1, h2⟩ := mapof_sound r hu hm
          split at hr
          · cases hr
          · rename_i hf0
            split at hf0
            · rename_i hok
              cases hr
              have hc := check_sound (P := P) (w := w) hkt hok hk es'.isEmpty
              rcases find_sound (P := P) (w := w) hkt hok hk h2 hf0 with ⟨_, h3⟩ | ⟨i, v, n, x, h3, _⟩
              · refine ⟨_, ?_, vo hzr false, rfl⟩
                simp [Instr.lookup, run_underlying hd, getMap h1, hc, h3, run_zT hzt]
              · cases h3
            · cases hf0
          · rename_i i v n hf0
            split at hf0
            · rename_i hok
              cases hr
              have hc := check_sound (P := P) (w := w) hkt hok hk es'.isEmpty
              rcases find_sound (P := P) (w := w) hkt hok hk h2 hf0 with ⟨h3, _⟩ | ⟨i', v', n', x, h3, h4, y, h5, h6, h7⟩
              · cases h3
              · cases h3
                refine ⟨_, ?_, vo (h2.get' h4 h5).2.1 true, rfl⟩
                simp [Instr.lookup, run_underlying hd, getMap h1, hc, h6]
            · cases hf0
  · cases ht
theorem F2.modify {es : List (AV × AV × Nat)} {xs : Array MapEntry} (hf : F2 (ME lk ρ) es xs.toList) {i : Nat} {e : AV × AV × Nat} {g : MapEntry → MapEntry} (hg : ∀ y, xs[i]? = some y → ME lk ρ e (g y)) : F2 (ME lk ρ) (es.set i e) (xs.modify i g).toList := by
  refine F2.of_get (by have := hf.length; simp at this; simp [this]) fun j a b ha hb => ?_
  rw [Array.getElem?_toList, Array.getElem?_modify] at hb
  rw [List.getElem?_set] at ha
  split at ha
  · rename_i e1
    subst e1
    split at ha
    · cases ha
      rw [if_pos rfl] at hb
      simp only [Option.map_eq_some_iff] at hb
      obtain ⟨y, h1, rfl⟩ := hb
      exact hg y h1
    · cases ha
  · rename_i e1
    rw [if_neg e1] at hb
    exact hf.get' ha (by simpa using hb)
theorem amapput_sound (r : Rel lk ρ h w) {t : TypeId} {kk : KK} {m k u v : AV} {a c d : Value} {h' : AH} (ht : mapK P t kk = true) (hm : VE lk ρ m a) (hk : VE lk ρ k c) (hu : VE lk ρ u d) (hkr : VR lk ρ k c) (hur : VR lk ρ u d)
    (hr : amapput kk m k u h = some (v, h')) : ∃ w', (Instr.mapUpdate t a c d).run P w = .ok () w' ∧ v = .tup [] ∧ Rel lk ρ h' w' ∧ Stp ρ h w ρ h' w' := by
  obtain ⟨kt, et, hd, hkt⟩ := mapK_spec ht
  unfold amapput at hr
  split at hr
  · cases hr
  · rename_i id es cl hmo
    obtain ⟨b, t', es', hid, hb, rfl, h1, h2⟩ := mapof_sound r hm hmo
    split at hr
    · cases hr
    · rename_i hf0
      split at hf0
      · rename_i hok
        cases hr
        have hc := check_sound (P := P) (w := w) hkt hok hk false
        rcases find_sound (P := P) (w := w) hkt hok hk h2 hf0 with ⟨_, h3⟩ | ⟨i, v, n, x, h3, _⟩
        · have hs := r.setMap hid hb (es' := es ++ [(k, u, cl)]) (cl' := cl + 1) (xs := es'.push { key := c, val := d, born := cl }) (by
            rw [Array.toList_push]
            exact h2.append ⟨⟨hkr, hur, rfl⟩, trivial⟩)
          exact ⟨_, by simp [Instr.mapUpdate, run_underlying hd, getMap h1, hc, h3, setMap _ h1], rfl, hs.1, hs.2⟩
        · cases h3
      · cases hf0
    · rename_i i v0 n hf0
      split at hf0
      · rename_i hok
        cases hr
        have hc := check_sound (P := P) (w := w) hkt hok hk false
        rcases find_sound (P := P) (w := w) hkt hok hk h2 hf0 with ⟨h3, _⟩ | ⟨i', v', n', x, h3, h4, y, h5, h6, h7⟩
        · cases h3
        · cases h3
          have hy := h2.get' h4 h5
          have hks := keeps_sound (P := P) (w := w) hk hy.1 h7
          have hya : es'[i]? = some y := by simpa using h5
          have hs := r.setMap hid hb (es' := es.set i (k, u, n)) (cl' := cl) (xs := es'.modify i fun e => { e with key := c, val := d }) (h2.modify fun q hq => by
            rw [hya] at hq
            cases hq
            exact ⟨hkr, hur, hy.2.2⟩)
          refine ⟨_, ?_, rfl, hs.1, hs.2⟩
          simp [Instr.mapUpdate, run_underlying hd, getMap h1, hc, h6, hya, hks, setMap _ h1]
      · cases hf0
theorem amapent_sound (r : Rel lk ρ h w) {t : TypeId} {kk : KK} {z m k v : AV} {a c : Value} {h' : AH} (ht : lkpK P t kk z = true) (hm : VE lk ρ m a) (hk : VE lk ρ k c) (hkr : VR lk ρ k c)
    (hr : amapent kk z m k h = some (v, h')) : ∃ x w', (Instr.mapEntry t a c).run P w = .ok x w' ∧ VE lk ρ v x ∧ Rel lk ρ h' w' ∧ Stp ρ h w ρ h' w' := by
  unfold lkpK at ht
  split at ht
  · rename_i kt et hd
    simp only [Bool.and_eq_true] at ht
    obtain ⟨hkt, hz⟩ := ht
    cases hzt : zT P et with
    | none => simp [hzt] at hz
    | some zv =>
      simp only [hzt] at hz
      have hzr : VR lk ρ z zv := chkZV_sound hz
      unfold amapent at hr
      split at hr
      · cases hr
      · rename_i id es cl hmo
        obtain ⟨b, t', es', hid, hb, rfl, h1, h2⟩ := mapof_sound r hm hmo
        split at hr
        · cases hr
        · rename_i hf0
          split at hf0
          · rename_i hok
            cases hr
            have hc := check_sound (P := P) (w := w) hkt hok hk false
            rcases find_sound (P := P) (w := w) hkt hok hk h2 hf0 with ⟨_, h3⟩ | ⟨i, v, n, x, h3, _⟩
            · have hs := r.setMap hid hb (es' := es ++ [(k, z, cl)]) (cl' := cl + 1) (xs := es'.push { key := c, val := zv, born := cl }) (by
                rw [Array.toList_push]
                exact h2.append ⟨⟨hkr, hzr, rfl⟩, trivial⟩)
              refine ⟨.tuple #[zv, goInt cl], _, ?_, .tup ⟨.one hzr, .one (.cell (.i _ _)), trivial⟩, hs.1, hs.2⟩
              simp [Instr.mapEntry, run_underlying hd, getMap h1, hc, h3, run_zT hzt, setMap _ h1]
            · cases h3
          · cases hf0
        · rename_i i v0 n hf0
          split at hf0
          · rename_i hok
            cases hr
            have hc := check_sound (P := P) (w := w) hkt hok hk false
            rcases find_sound (P := P) (w := w) hkt hok hk h2 hf0 with ⟨h3, _⟩ | ⟨i', v', n', x, h3, h4, y, h5, h6, h7⟩
            · cases h3
            · cases h3
              have hy := h2.get' h4 h5
              have hks := keeps_sound (P := P) (w := w) hk hy.1 h7
              have hya : es'[i]? = some y := by simpa using h5
              have hs := r.setMap hid hb (es' := es.set i (k, v0, n)) (cl' := cl) (xs := es'.modify i fun e => { e with key := c }) (h2.modify fun q hq => by
                rw [hya] at hq
                cases hq
                exact ⟨hkr, hy.2.1, hy.2.2⟩)
              have hn : n = y.born := hy.2.2
              refine ⟨.tuple #[y.val, goInt y.born], _, ?_, .tup ⟨.one hy.2.1, .one (.cell (by rw [hn]; exact .i _ _)), trivial⟩, hs.1, hs.2⟩
              simp [Instr.mapEntry, run_underlying hd, getMap h1, hc, h6, hya, hks, setMap _ h1]
          · cases hf0
  · cases ht
theorem bfind_sound {born : Int} : ∀ {es : List (AV × AV × Nat)} {xs : List MapEntry} {j i n : Nat} {k : AV}, F2 (ME lk ρ) es xs → bfind born es j = some (i, k, n) →
    ∃ q v, i = j + q ∧ es[q]? = some (k, v, n) ∧ xs.findIdx? (fun e => (e.born : Int) == born) = some q
  | [], [], _, _, _, _, _, hr => by simp [bfind] at hr
  | (k0, v0, n0) :: es, y :: xs, j, i, n, k, hf, hr => by
    simp only [bfind] at hr
    have hb : n0 = y.born := hf.1.2.2
    split at hr
    · rename_i e
      cases hr
      exact ⟨0, v0, rfl, rfl, by simp [List.findIdx?_cons, ← hb, e]⟩
    · rename_i e
      obtain ⟨q, v, h1, h2, h3⟩ := bfind_sound hf.2 hr
      refine ⟨q + 1, v, by omega, by simpa using h2, ?_⟩
      have : ¬ ((y.born : Int) == born) = true := by rw [← hb]; simpa using e
      simp [List.findIdx?_cons, this, h3]
  | [], _ :: _, _, _, _, _, hf, _ => hf.elim
  | _ :: _, [], _, _, _, _, hf, _ => hf.elim
theorem amapst_sound (r : Rel lk ρ h w) {t : TypeId} {m s u v : AV} {a c d : Value} {h' : AH} (hm : VE lk ρ m a) (hk : VE lk ρ s c) (hu : VE lk ρ u d) (hur : VR lk ρ u d)
    (hr : amapst m s u h = some (v, h')) : ∃ w', (Instr.entryStore t a c d).run P w = .ok () w' ∧ v = .tup [] ∧ Rel lk ρ h' w' ∧ Stp ρ h w ρ h' w' := by
  unfold amapst at hr
  split at hr
  · rename_i id es cl kk born hmo
    obtain ⟨b, t', es', hid, hb, rfl, h1, h2⟩ := mapof_sound r hm hmo
    obtain rfl := hk.i
    split at hr
    · cases hr
    · rename_i i k0 n hf
      cases hr
      obtain ⟨q, v0, h3, h4, h5⟩ := bfind_sound h2 hf
      have hi : i = q := by omega
      subst hi
      obtain ⟨y, h6, hy⟩ := h2.get h4
      have hya : es'[i]? = some y := by simpa using h6
      have hs := r.setMap hid hb (es' := es.set i (k0, u, n)) (cl' := cl) (xs := es'.modify i fun e => { e with val := d }) (h2.modify fun q hq => by
        rw [hya] at hq
        cases hq
        exact ⟨hy.1, hur, hy.2.2⟩)
      have h5' : es'.findIdx? (fun e => (e.born : Int) == born) = some i := by
        have e : es' = es'.toList.toArray := by simp
        rw [e, List.findIdx?_toArray]
        exact h5
      exact ⟨_, by simp [Instr.entryStore, getMap h1, asInt, asIntOf, h5', setMap _ h1], rfl, hs.1, hs.2⟩
  · cases hr
def delK (P : Program) (ts : Array TypeId) (kk : KK) : Bool :=
  match ts.toList with
  | t :: _ => mapK P t kk
  | _ => false
theorem adel_sound (r : Rel lk ρ h w) {ts : Array TypeId} {ty : TypeId} {kk : KK} {m k v : AV} {a c : Value} {h' : AH} (ht : delK P ts kk = true) (hm : VE lk ρ m a) (hk : VE lk ρ k c)
    (hr : adel kk m k h = some (v, h')) : ∃ x w', (Builtin.delete_ ts ty #[a, c]).run P w = .ok x w' ∧ VE lk ρ v x ∧ Rel lk ρ h' w' ∧ Stp ρ h w ρ h' w' := by
  unfold delK at ht
  split at ht
  · rename_i t tr hts
    have ht0 : ts[0]? = some t := by rw [← Array.getElem?_toList, hts]; rfl
    obtain ⟨kt, et, hd, hkt⟩ := mapK_spec ht
    unfold adel at hr
    split at hr
    · obtain rfl := hm.nilm
      split at hr
      · rename_i hok
        cases hr
        have hc := check_sound (P := P) (w := w) hkt hok hk true
        exact ⟨.tuple #[], w, by simp [Builtin.delete_, ht0, run_underlying hd, hc], .tup trivial, r, .refl _ _ _⟩
      · cases hr
    · split at hr
      · cases hr
      · rename_i id es cl hmo
        obtain ⟨b, t', es', hid, hb, rfl, h1, h2⟩ := mapof_sound r hm hmo
        split at hr
        · cases hr
        · rename_i hf0
          split at hf0
          · rename_i hok
            cases hr
            have hc := check_sound (P := P) (w := w) hkt hok hk es'.isEmpty
            rcases find_sound (P := P) (w := w) hkt hok hk h2 hf0 with ⟨_, h3⟩ | ⟨i, v, n, x, h3, _⟩
            · have hw : ({ w with heap := w.heap.setIfInBounds b (.map es' cl) } : World) = w := by
                have : w.heap.setIfInBounds b (.map es' cl) = w.heap := by
                  apply Array.ext_getElem?
                  intro j
                  by_cases e : b = j
                  · subst e
                    have hlt := (Array.getElem?_eq_some_iff.1 h1).1
                    simp only [Array.getElem?_setIfInBounds_self, hlt, if_true]
                    exact h1.symm
                  · rw [Array.getElem?_setIfInBounds_ne e]
                rw [this]
              refine ⟨.tuple #[], w, ?_, .tup trivial, r, .refl _ _ _⟩
              simp [Builtin.delete_, ht0, run_underlying hd, getMap h1, hc, h3, setMap _ h1, hw]
            · cases h3
          · cases hf0
        · rename_i i v0 n hf0
          split at hf0
          · rename_i hok
            cases hr
            have hc := check_sound (P := P) (w := w) hkt hok hk es'.isEmpty
            rcases find_sound (P := P) (w := w) hkt hok hk h2 hf0 with ⟨h3, _⟩ | ⟨i', v', n', x, h3, h4, y, h5, h6, h7⟩
            · cases h3
            · cases h3
              have hs := r.setMap hid hb (es' := es.eraseIdx i) (cl' := cl) (xs := es'.eraseIdxIfInBounds i) (by
                rw [Array.toList_eraseIdxIfInBounds]
                exact h2.eraseIdx i)
              exact ⟨.tuple #[], _, by simp [Builtin.delete_, ht0, run_underlying hd, getMap h1, hc, h6, setMap _ h1], .tup trivial, hs.1, hs.2⟩
          · cases hf0
  · cases ht
end
end Go.Proofs.Ytpgoemmjhnnmoaa.Ab
