/- The operations, part seven: maps. -/
import Derived.Test.YtpgoemmjhnnmoaaAbOps6
namespace Go.Proofs.Ytpgoemmjhnnmoaa.Ab
open Go
set_option linter.unusedVariables false
section
variable {P : Program} {lk : Lk} {ρ : Rho} {h : AH} {w : World}

/-- a key that fits its kind: the model's look at it passes -/
theorem conf1_scalar {k : SK} {u : AV} {x : Value} {t : TypeId} (ht : skT P t k = true) (hc : conf1 k u = true) (hu : VC lk ρ u x) (em : Bool) (n : Nat) : (Instr.checkKey em (n + 1) t x).run P w = .ok () w := by
  unfold skT at ht
  cases hd : P.underlying t with
  | none => simp [hd] at ht
  | some d =>
    cases d <;> cases k <;> simp [hd] at ht <;> cases u <;> simp [conf1] at hc <;> cases hu <;> simp [Instr.checkKey, run_underlying hd]
theorem checkItems {e : TypeId} {em : Bool} {n : Nat} {xs : Array Value} : ∀ {ks : List SK} {o : Nat} {us : List AV}, ks.all (skT P e) = true → confs ks us = true → F2 (VC lk ρ) us (xs.toList.drop o) → P.cellsOf e = 1 → (P.info? e).isSome = true →
    (forIn (List.range' o ks.length) PUnit.unit fun i r => (do Instr.checkKey em (n + 1) e (← part e xs (i * (← sizeOf e))); pure (ForInStep.yield PUnit.unit) : Sem (ForInStep PUnit))).run P w = .ok PUnit.unit w
  | [], o, us, _, _, _, _, _ => by simp
  | k :: ks, o, us, hk, hc, hu, he, hi => by
    cases us with
    | nil => simp [confs] at hc
    | cons u us =>
      simp only [List.all_cons, Bool.and_eq_true] at hk
      simp only [confs, Bool.and_eq_true] at hc
      obtain ⟨x, xs', hx, hux, hus⟩ := hu.head
      have hx0 : xs[o * 1]? = some x := by
        have := congrArg (fun l => l[0]?) hx
        simpa [List.getElem?_drop] using this
      have hx1 : xs.toList.drop (o + 1) = xs' := by rw [← List.drop_drop, hx]; rfl
      obtain ⟨i0, hi0⟩ := Option.isSome_iff_exists.1 hi
      have hs : (sizeOf e).run P w = .ok 1 w := by rw [run_sizeOf w hi0, he]
      simp only [List.length_cons, List.range'_succ, List.forIn_cons, Sem.run_bind, hs, Result.andThen_ok, run_part_scalar hk.1 hx0, conf1_scalar hk.1 hc.1 hux, Sem.run_pure]
      exact checkItems hk.2 hc.2 (by rw [hx1]; exact hus) he hi
theorem check_array {kt e : TypeId} {n m : Nat} {em : Bool} {xs : Array Value} {us : List AV} {ks : List SK} (hd : P.underlying kt = some (.array n e)) (h1 : ks.length = n) (h2 : ks.all (skT P e) = true) (h3 : P.cellsOf e = 1) (h4 : (P.info? e).isSome = true)
    (hc : confs ks us = true) (hu : F2 (VC lk ρ) us xs.toList) : (Instr.checkKey em (m + 2) kt (.agg xs)).run P w = .ok () w := by
  have := checkItems (P := P) (w := w) (em := em) (n := m) (o := 0) h2 hc (by simpa using hu) h3 h4
  rw [Instr.checkKey]
  simp only [Sem.run_bind, run_underlying hd, Result.andThen_ok]
  simp only [Std.Legacy.Range.forIn_eq_forIn_range', Std.Legacy.Range.size, Nat.sub_zero, Nat.add_one_sub_one, Nat.div_one]
  rw [← h1, this]
  rfl
def keyT (P : Program) (kt : TypeId) : KK → Bool
  | .sc k => skT P kt k
  | .ar ks => (match P.underlying kt with | some (.array _ _) => true | _ => false) && eqK P kt (.ag ks)
theorem conf1_VC {k : SK} {u : AV} {x : Value} (hc : conf1 k u = true) (hu : VE lk ρ u x) : VC lk ρ u x := by
  cases u <;> cases k <;> simp [conf1] at hc
  · obtain rfl := hu.b; exact .b _
  · obtain rfl := hu.i; exact .i _ _
  · obtain ⟨y, hy, rfl⟩ := hu.s; exact .s _ _ hy
theorem check_sound {kt : TypeId} {kk : KK} {u : AV} {x : Value} (ht : keyT P kt kk = true) (hc : kok kk u = true) (hu : VE lk ρ u x) (em : Bool) : (Instr.checkKey em 10000 kt x).run P w = .ok () w := by
  cases kk with
  | sc k => exact conf1_scalar ht hc (conf1_VC hc hu) em 9999
  | ar ks =>
    simp only [keyT, Bool.and_eq_true] at ht
    obtain ⟨h0, ht⟩ := ht
    cases u with
    | agg a =>
      obtain ⟨xs, hxs, rfl⟩ := hu.agg
      cases hd : P.underlying kt with
      | none => simp [hd] at h0
      | some d =>
        cases d with
        | array n e =>
          simp only [eqK, hd, Bool.and_eq_true, decide_eq_true_eq] at ht
          obtain ⟨_, ⟨⟨h1, h2⟩, h3⟩, h4⟩ := ht
          exact check_array (m := 9998) hd h1 h2 h3 h4 hc hxs
        | _ => simp [hd] at h0
    | _ => simp [kok] at hc
theorem sameNow_sound {t : TypeId} {d : TypeDesc} {k : SK} {u v : AV} {a b : Value} {r : Bool} (hd : P.underlying t = some d) (ht : skT P t k = true) (hu : VE lk ρ u a) (hv : VE lk ρ v b) (hr : sceq k u v = some r) : Instr.sameNow d a b = some r := by
  unfold skT at ht
  rw [hd] at ht
  unfold sceq at hr
  split at hr
  · obtain rfl := hu.b; obtain rfl := hv.b
    cases d <;> simp at ht
    cases hr; rfl
  · split at hr
    · rename_i e
      subst e
      obtain rfl := hu.i; obtain rfl := hv.i
      cases d <;> simp at ht
      cases hr; simp only [Instr.sameNow, if_true]; rfl
    · cases hr
  · obtain ⟨y1, rfl, rfl⟩ := hu.s
    obtain ⟨y2, rfl, rfl⟩ := hv.s
    cases d <;> simp at ht
    cases hr
    simp only [Instr.sameNow, beq_toListBytes, ByteArray.toList_eq, beqd]
  · cases hr
theorem find_now {t : TypeId} {d : TypeDesc} {k : SK} {u : AV} {a : Value} (hd : P.underlying t = some d) (ht : skT P t k = true) (hu : VE lk ρ u a) : ∀ {es : List (AV × AV × Nat)} {xs : List MapEntry} {j : Nat} {res : Option (Nat × AV × Nat)},
    F2 (ME lk ρ) es xs → kfind (.sc k) u es j = some res →
    (res = none ∧ Instr.findNow d a xs j = some none) ∨ ∃ i v n x, res = some (j + i, v, n) ∧ es[i]? = some (x, v, n) ∧ ∃ y, xs[i]? = some y ∧ Instr.findNow d a xs j = some (some (j + i, y.val)) ∧ keyq (.sc k) u x = some true
  | [], [], j, res, _, hr => by simp [kfind] at hr; subst hr; exact .inl ⟨rfl, rfl⟩
  | (x, v, n) :: es, y :: xs, j, res, hf, hr => by
    simp only [kfind] at hr
    cases hq : keyq (.sc k) u x with
    | none => simp [hq] at hr
    | some q =>
      have hs := sameNow_sound hd ht hu hf.1.1.e hq
      cases q with
      | true =>
        simp [hq] at hr
        subst hr
        exact .inr ⟨0, v, n, x, rfl, rfl, y, rfl, by simp [Instr.findNow, hs], hq⟩
      | false =>
        simp only [hq] at hr
        rcases find_now hd ht hu hf.2 hr with ⟨h1, h2⟩ | ⟨i, v', n', x', h1, h2, y', h3, h4, h5⟩
        · exact .inl ⟨h1, by simp [Instr.findNow, hs, h2]⟩
        · exact .inr ⟨i + 1, v', n', x', by rw [h1, Nat.add_assoc, Nat.add_comm 1 i], by simpa using h2, y', by simpa using h3, by simp only [Instr.findNow, hs, h4]; rw [Nat.add_assoc, Nat.add_comm 1 i], h5⟩
  | [], _ :: _, _, _, hf, _ => hf.elim
  | _ :: _, [], _, _, hf, _ => hf.elim
theorem find_asking {t : TypeId} {ks : List SK} {us : List AV} {as : Array Value} (ht : eqK P t (.ag ks) = true) (hu : F2 (VC lk ρ) us as.toList) : ∀ {es : List (AV × AV × Nat)} {xs : List MapEntry} {j : Nat} {res : Option (Nat × AV × Nat)},
    F2 (ME lk ρ) es xs → kfind (.ar ks) (.agg us) es j = some res →
    (res = none ∧ (Instr.findAsking t (.agg as) xs j).run P w = .ok none w) ∨ ∃ i v n x, res = some (j + i, v, n) ∧ es[i]? = some (x, v, n) ∧ ∃ y, xs[i]? = some y ∧ (Instr.findAsking t (.agg as) xs j).run P w = .ok (some (j + i, y.val)) w ∧ keyq (.ar ks) (.agg us) x = some true
  | [], [], j, res, _, hr => by simp [kfind] at hr; subst hr; exact .inl ⟨rfl, rfl⟩
  | (x, v, n) :: es, y :: xs, j, res, hf, hr => by
    simp only [kfind] at hr
    cases hq : keyq (.ar ks) (.agg us) x with
    | none => simp [hq] at hr
    | some q =>
      have hs : (Op.equal t (.agg as) y.key).run P w = .ok q w := by
        cases x with
        | agg bs =>
          obtain ⟨zs, hzs, hk⟩ := hf.1.1.e.agg
          rw [hk]
          exact aeqs_sound (d := 9998) ht hu hzs hq
        | _ => simp [keyq] at hq
      cases q with
      | true =>
        simp [hq] at hr
        subst hr
        exact .inr ⟨0, v, n, x, rfl, rfl, y, rfl, by simp [Instr.findAsking, hs], hq⟩
      | false =>
        simp only [hq] at hr
        rcases find_asking ht hu hf.2 hr with ⟨h1, h2⟩ | ⟨i, v', n', x', h1, h2, y', h3, h4, h5⟩
        · exact .inl ⟨h1, by simp [Instr.findAsking, hs, h2]⟩
        · exact .inr ⟨i + 1, v', n', x', by rw [h1, Nat.add_assoc, Nat.add_comm 1 i], by simpa using h2, y', by simpa using h3, by simp only [Instr.findAsking, Sem.run_bind, hs, Result.andThen_ok, Bool.false_eq_true, if_false, h4]; rw [Nat.add_assoc, Nat.add_comm 1 i], h5⟩
  | [], _ :: _, _, _, hf, _ => hf.elim
  | _ :: _, [], _, _, hf, _ => hf.elim
theorem find_sound {t : TypeId} {kk : KK} {u : AV} {a : Value} (ht : keyT P t kk = true) (hok : kok kk u = true) (hu : VE lk ρ u a) {es : List (AV × AV × Nat)} {xs : List MapEntry} {res : Option (Nat × AV × Nat)} (hf : F2 (ME lk ρ) es xs) (hr : kfind kk u es 0 = some res) :
    (res = none ∧ (Instr.findKey t a xs).run P w = .ok none w) ∨ ∃ i v n x, res = some (i, v, n) ∧ es[i]? = some (x, v, n) ∧ ∃ y, xs[i]? = some y ∧ (Instr.findKey t a xs).run P w = .ok (some (i, y.val)) w ∧ keyq kk u x = some true := by
  cases kk with
  | sc k =>
    have ht' : skT P t k = true := ht
    cases hd : P.underlying t with
    | none => simp [skT, hd] at ht'
    | some d =>
      rcases find_now hd ht' hu hf hr with ⟨h1, h2⟩ | ⟨i, v', n', x', h1, h2, y', h3, h4, h5⟩
      · exact .inl ⟨h1, by simp [Instr.findKey, run_underlying hd, h2]⟩
      · refine .inr ⟨i, v', n', x', by simpa using h1, h2, y', h3, ?_, h5⟩
        simp [Instr.findKey, run_underlying hd, h4]
  | ar ks =>
    simp only [keyT, Bool.and_eq_true] at ht
    obtain ⟨h0, ht⟩ := ht
    cases u with
    | agg us =>
      obtain ⟨as, has, rfl⟩ := hu.agg
      have hw : (match P.underlying t with | some (.array _ _) | some (.struct _) => true | _ => false) = true := by
        cases hd : P.underlying t with
        | none => simp [hd] at h0
        | some d => cases d <;> simp_all
      rw [run_findKey_eq w hw]
      rcases find_asking (w := w) ht has hf hr with ⟨h1, h2⟩ | ⟨i, v', n', x', h1, h2, y', h3, h4, h5⟩
      · exact .inl ⟨h1, h2⟩
      · exact .inr ⟨i, v', n', x', by simpa using h1, h2, y', h3, by simpa using h4, h5⟩
    | _ => simp [kok] at hok
/-- keys that are found are alike bit by bit -/
theorem sceq_bits {k : SK} {u v : AV} {a b : Value} {n : Nat} (hu : VE lk ρ u a) (hv : VE lk ρ v b) (hr : sceq k u v = some true) : Instr.sameBits n b a = true := by
  unfold sceq at hr
  split at hr
  · obtain rfl := hu.b; obtain rfl := hv.b; simp at hr; subst hr; simp [Instr.sameBits]
  · split at hr
    · rename_i e
      subst e
      obtain rfl := hu.i; obtain rfl := hv.i; simp at hr; subst hr; simp [Instr.sameBits]
    · cases hr
  · obtain ⟨y1, rfl, rfl⟩ := hu.s
    obtain ⟨y2, h2, rfl⟩ := hv.s
    simp only [Option.some.injEq, decide_eq_true_eq] at hr
    have : y1 = y2 := by
      have h3 : y1.data.toList = y2.data.toList := by rw [hr, h2]
      have h4 := Array.toList_inj.1 h3
      cases y1; cases y2; simp at h4; rw [h4]
    subst this
    simp [Instr.sameBits, beq_toListBytes]
  · cases hr
theorem aeqs_bits {n : Nat} : ∀ {ks : List SK} {us vs : List AV} {as bs : List Value}, F2 (VC lk ρ) us as → F2 (VC lk ρ) vs bs → aeqs ks us vs = some true → as.length = bs.length ∧ ((bs.zip as).all fun (x, y) => Instr.sameBits n x y) = true
  | [], [], [], [], [], _, _, _ => ⟨rfl, rfl⟩
  | k :: ks, u :: us, v :: vs, a :: as, b :: bs, hu, hv, hr => by
    simp only [aeqs] at hr
    cases hs : sceq k u v with
    | none => simp [hs] at hr
    | some q =>
      cases q with
      | false => simp [hs] at hr
      | true =>
        simp only [hs] at hr
        obtain ⟨h1, h2⟩ := aeqs_bits (n := n) hu.2 hv.2 hr
        exact ⟨by simp [h1], by simp only [List.zip_cons_cons, List.all_cons, Bool.and_eq_true]; exact ⟨sceq_bits hu.1.e hv.1.e hs, h2⟩⟩
  | [], _ :: _, _, _, _, _, _, hr => by simp [aeqs] at hr
  | [], [], _ :: _, _, _, _, _, hr => by simp [aeqs] at hr
  | _ :: _, [], _, _, _, _, _, hr => by simp [aeqs] at hr
  | _ :: _, _ :: _, [], _, _, _, _, hr => by simp [aeqs] at hr
  | _, [], _, _ :: _, _, hu, _, _ => hu.elim
  | _, _ :: _, _, [], _, hu, _, _ => hu.elim
  | _, _, [], _, _ :: _, _, hv, _ => hv.elim
  | _, _, _ :: _, _, [], _, hv, _ => hv.elim
theorem keeps_sound {kk : KK} {u v : AV} {a b : Value} (hu : VE lk ρ u a) (hv : VR lk ρ v b) (hr : keyq kk u v = some true) : (Instr.keyThatStays b a).run P w = .ok a w := by
  have : Instr.sameBits (9999 + 1) b a = true := by
    unfold keyq at hr
    split at hr
    · exact sceq_bits hu hv.e hr
    · obtain ⟨as, has, rfl⟩ := hu.agg
      obtain ⟨bs, hbs, rfl⟩ := hv.e.agg
      obtain ⟨h1, h2⟩ := aeqs_bits (n := 9999) has hbs hr
      simp only [Instr.sameBits, Bool.and_eq_true, beq_iff_eq]
      exact ⟨by simpa using h1.symm, h2⟩
    · cases hr
  have h : Instr.sameBits 10000 b a = true := this
  simp [Instr.keyThatStays, h]
end
end Go.Proofs.Ytpgoemmjhnnmoaa.Ab
