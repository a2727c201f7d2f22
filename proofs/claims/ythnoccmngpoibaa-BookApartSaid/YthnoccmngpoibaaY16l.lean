/- Chapter 16: plain law: what was taken and not called off, station by station, is what was served and then what waits. -/
import Derived.Test.YthnoccmngpoibaaY16d
namespace Go.Proofs.Ythnoccmngpoibaa.Ab
open Go
set_option linter.unusedVariables false
theorem filter_setE {e f : Ent} (hf : isO f = false) (hs : isO e = true) : ∀ (l : List Ent) (i : Nat), (l.map Ent.id).Nodup → l[i]? = some e → (l.set i f).filter isO = (l.filter isO).filter fun y => decide (y.id ≠ e.id)
  | [], i, _, h => by simp at h
  | x :: l, 0, hn, h => by
    simp at h; subst h
    rw [List.map_cons, List.nodup_cons] at hn
    have hd : (l.filter isO).filter (fun y => decide (y.id ≠ x.id)) = l.filter isO := List.filter_eq_self.2 fun y hy => decide_eq_true fun h => hn.1 (h ▸ List.mem_map_of_mem (List.mem_filter.1 hy).1)
    rw [List.set_cons_zero, List.filter_cons, hf, List.filter_cons, hs, if_pos rfl, List.filter_cons, hd]
    simp
  | x :: l, i + 1, hn, h => by
    rw [List.map_cons, List.nodup_cons] at hn
    have ih := filter_setE hf hs l i hn.2 (by simpa using h)
    have hne : x.id ≠ e.id := fun h' => hn.1 (h' ▸ List.mem_map_of_mem (List.mem_of_getElem? (by simpa using h)))
    rw [List.set_cons_succ, List.filter_cons, List.filter_cons, ih]
    split
    · rw [List.filter_cons, if_pos (decide_eq_true hne)]
    · rfl
def atS (s : Int) (e : Ent) : Bool := decide (e.st = s)
structure Ord (b : Bk) (K : List Ent) : Prop where
  d2 : ∀ x ∈ b.done, ∃ e ∈ b.all, e.id = x ∧ e.s = 2
  eq : ∀ s, (K.filter (atS s)).map Ent.id = b.served s ++ (b.opE.filter (atS s)).map Ent.id
theorem Bk.stOf_mem {b : Bk} (hk : b.Ok) {e : Ent} (he : e ∈ b.all) : b.stOf e.id = e.st := by
  obtain ⟨i, hf, _⟩ := hk.find he
  simp only [Bk.stOf, hf]
theorem Bk.state_mem {b : Bk} (hk : b.Ok) {e : Ent} (he : e ∈ b.all) : b.state e.id = e.s := by
  obtain ⟨i, hf, _⟩ := hk.find he
  simp only [Bk.state, hf]
theorem Bk.uniq {b : Bk} (hk : b.Ok) {e f : Ent} (he : e ∈ b.all) (hf : f ∈ b.all) (h : e.id = f.id) : e = f := by
  obtain ⟨i, h1, _⟩ := hk.find he
  obtain ⟨j, h2, _⟩ := hk.find hf
  rw [h, h2] at h1; cases h1; rfl
theorem Ord.nil : Ord Bk.nil [] := ⟨fun x hx => by simp [Bk.nil] at hx, fun s => rfl⟩
theorem served_congr {b b' : Bk} (hd : b'.done = b.done) (hs : ∀ x ∈ b.done, b'.stOf x = b.stOf x) (s : Int) : b'.served s = b.served s := by
  simp only [Bk.served, hd]
  exact List.filter_congr fun x hx => by rw [hs x hx]
theorem Bk.add_cases (b : Bk) (id st to : Int) : (b.add id st to).2.1 = false ∧ (b.add id st to).1 = b ∨ (b.add id st to).2.1 = true ∧ (b.add id st to).2.2 = 0 ∧ (b.add id st to).1 = b.addE id st to ∧ findX Ent.id id b.all 0 = none ∧ b.wanted to = none ∧ b.opE.length < 64 ∧ ¬(st < 0 ∨ st ≥ 40 ∨ to < 1 ∨ to > 30) := by
  unfold Bk.add
  split
  · exact .inl ⟨rfl, rfl⟩
  · rename_i hb
    cases findX Ent.id id b.all 0 with
    | some p => simp only; split <;> exact .inl ⟨rfl, rfl⟩
    | none =>
      simp only
      split
      · exact .inl ⟨rfl, rfl⟩
      · rename_i hw
        split
        · exact .inl ⟨rfl, rfl⟩
        · rename_i hl
          exact .inr ⟨rfl, rfl, rfl, by trivial, by simpa using hw, by omega, hb⟩
theorem Ord.addE {b : Bk} {K : List Ent} (o : Ord b K) (hk : b.Ok) {id st to : Int} (hk2 : (b.addE id st to).Ok) : Ord (b.addE id st to) (K ++ [⟨id, st, to, 1⟩]) where
  d2 := fun x hx => by
    obtain ⟨e, he, h⟩ := o.d2 x hx
    exact ⟨e, List.mem_append.2 (.inl he), h⟩
  eq := fun s => by
    have hs := served_congr (b := b) (b' := b.addE id st to) rfl (fun x hx => by
      obtain ⟨e, he, rfl, _⟩ := o.d2 x hx
      rw [Bk.stOf_mem hk he, Bk.stOf_mem hk2 (List.mem_append.2 (.inl he))]) s
    have hop : (b.addE id st to).opE = b.opE ++ [⟨id, st, to, 1⟩] := by
      rw [Bk.addE, Bk.opE, List.filter_append]; rfl
    rw [hs, hop, List.filter_append, List.filter_append, List.map_append, List.map_append, o.eq s, List.append_assoc]
theorem set_stOf {b : Bk} (hk : b.Ok) {i : Nat} {e : Ent} {s2 : Int} (hi : b.all[i]? = some e) (hs : s2 = 1 ∨ s2 = 2 ∨ s2 = 3) {f : Ent} (hf : f ∈ b.all) : (b.set i e s2).stOf f.id = b.stOf f.id := by
  have hk2 := Bk.set_ok hk hi hs
  rw [Bk.stOf_mem hk hf]
  obtain ⟨j, hj⟩ := List.mem_iff_getElem?.1 hf
  by_cases h : i = j
  · subst h
    rw [hi] at hj; cases hj
    exact Bk.stOf_mem hk2 (e := ⟨e.id, e.st, e.to, s2⟩) (List.mem_iff_getElem?.2 ⟨i, List.getElem?_set_self (List.getElem?_eq_some_iff.1 hi).1⟩)
  · exact Bk.stOf_mem hk2 (List.mem_iff_getElem?.2 ⟨j, by rw [Bk.set, List.getElem?_set_ne h]; exact hj⟩)
theorem set_d2 {b : Bk} (hk : b.Ok) {i : Nat} {e : Ent} {s2 : Int} (hi : b.all[i]? = some e) (h1 : e.s = 1) {x : Int} (hx : ∃ f ∈ b.all, f.id = x ∧ f.s = 2) : ∃ f ∈ (b.set i e s2).all, f.id = x ∧ f.s = 2 := by
  obtain ⟨f, hf, h2, h3⟩ := hx
  obtain ⟨j, hj⟩ := List.mem_iff_getElem?.1 hf
  have hne : i ≠ j := fun h => by subst h; rw [hi] at hj; cases hj; omega
  exact ⟨f, List.mem_iff_getElem?.2 ⟨j, by rw [Bk.set, List.getElem?_set_ne hne]; exact hj⟩, h2, h3⟩
theorem set_opE {b : Bk} (hk : b.Ok) {i : Nat} {e : Ent} {s2 : Int} (hi : b.all[i]? = some e) (he : e.s = 1) (hs : s2 ≠ 1) : (b.set i e s2).opE = b.opE.filter fun y => decide (y.id ≠ e.id) :=
  filter_setE (by simp [isO, hs]) (by simp [isO, he]) b.all i hk.nd hi
theorem map_dr (x : Int) (l : List Ent) : (l.filter fun y => decide (y.id ≠ x)).map Ent.id = dr x (l.map Ent.id) := by
  induction l with
  | nil => rfl
  | cons e l ih =>
    rw [List.filter_cons, List.map_cons]
    by_cases h : e.id = x
    · rw [if_neg (by simp [h]), ih]; simp [dr, h]
    · rw [if_pos (by simp [h]), List.map_cons, ih]; simp [dr, h]
theorem filter_comm (p q : Ent → Bool) (l : List Ent) : (l.filter p).filter q = (l.filter q).filter p := by
  rw [List.filter_filter, List.filter_filter]
  exact List.filter_congr fun x _ => Bool.and_comm _ _
theorem Bk.cancel_cases {b : Bk} (hk : b.Ok) (x : Int) : (b.cancel x).2.1 = false ∧ (b.cancel x).1 = b ∨ (b.cancel x).2.1 = true ∧ (b.cancel x).2.2 = 0 ∧ ∃ i e, findX Ent.id x b.all 0 = some (i, e) ∧ e.s = 1 ∧ (b.cancel x).1 = b.set i e 3 := by
  unfold Bk.cancel
  cases hf : findX Ent.id x b.all 0 with
  | none => exact .inl ⟨rfl, rfl⟩
  | some p =>
    obtain ⟨i, e⟩ := p
    simp only
    split
    · rename_i h1; exact .inr ⟨rfl, rfl, i, e, rfl, h1, rfl⟩
    · split
      · exact .inl ⟨rfl, rfl⟩
      · split <;> exact .inl ⟨rfl, rfl⟩
theorem Ord.cancel {b : Bk} {K : List Ent} (o : Ord b K) (hk : b.Ok) {x : Int} {i : Nat} {e : Ent} (hf : findX Ent.id x b.all 0 = some (i, e)) (he : e.s = 1) : Ord (b.set i e 3) (K.filter fun y => decide (y.id ≠ x)) := by
  obtain ⟨hm, hx, hi⟩ := findX_mem hf
  refine ⟨fun y hy => set_d2 hk hi he (o.d2 y hy), fun s => ?_⟩
  have hs := served_congr (b := b) (b' := b.set i e 3) rfl (fun y hy => by
    obtain ⟨f, hf, rfl, _⟩ := o.d2 y hy
    exact set_stOf hk hi (by decide) hf) s
  rw [hs, set_opE hk hi he (by decide), hx, filter_comm, map_dr, filter_comm, map_dr, o.eq s, dr_app]
  congr 1
  refine dr_id (List.all_eq_true.2 fun y hy => decide_eq_true fun h => ?_)
  obtain ⟨f, hf, h2, h3⟩ := o.d2 y (List.mem_filter.1 hy).1
  have := Bk.uniq hk hf hm (by rw [h2, h, hx])
  subst this; omega
theorem Bk.serve_cases (b : Bk) (x : Int) : (b.serve x).2 ≠ 0 ∧ (b.serve x).1 = b ∨ (b.serve x).2 = 0 ∧ ∃ i e, findX Ent.id x b.all 0 = some (i, e) ∧ e.s = 1 ∧ fid (b.first e.st) = x ∧ (b.serve x).1 = ⟨(b.set i e 2).all, b.done ++ [x]⟩ := by
  unfold Bk.serve
  cases hf : findX Ent.id x b.all 0 with
  | none => exact .inl ⟨by simp, rfl⟩
  | some p =>
    obtain ⟨i, e⟩ := p
    simp only
    split
    · rename_i h1
      split
      · rename_i h2; exact .inr ⟨rfl, i, e, rfl, h1, h2, rfl⟩
      · exact .inl ⟨by simp, rfl⟩
    · exact .inl ⟨by simp, rfl⟩
theorem find_filter (p : Ent → Bool) : ∀ (l : List Ent), l.find? p = (l.filter p).head?
  | [] => rfl
  | x :: l => by
    rw [List.find?_cons, List.filter_cons]
    cases h : p x with
    | true => rfl
    | false => simp only [Bool.false_eq_true, if_false]; exact find_filter p l
theorem Ord.serve {b : Bk} {K : List Ent} (o : Ord b K) (hk : b.Ok) {x : Int} {i : Nat} {e : Ent} (hf : findX Ent.id x b.all 0 = some (i, e)) (he : e.s = 1) (hfi : fid (b.first e.st) = x) : Ord ⟨(b.set i e 2).all, b.done ++ [x]⟩ K := by
  obtain ⟨hm, hx, hi⟩ := findX_mem hf
  have hk2 := Bk.set_ok hk hi (s := 2) (by decide)
  have hmo : e ∈ b.opE := List.mem_filter.2 ⟨hm, by simp [isO, he]⟩
  have hnew : (⟨e.id, e.st, e.to, 2⟩ : Ent) ∈ (b.set i e 2).all := List.mem_iff_getElem?.2 ⟨i, List.getElem?_set_self (List.getElem?_eq_some_iff.1 hi).1⟩
  refine ⟨fun y hy => ?_, fun s => ?_⟩
  · rcases List.mem_append.1 hy with hy | hy
    · exact set_d2 hk hi he (o.d2 y hy)
    · rw [List.mem_singleton.1 hy]
      exact ⟨_, hnew, hx, rfl⟩
  · have hop : (Bk.mk (b.set i e 2).all (b.done ++ [x])).opE = b.opE.filter fun y => decide (y.id ≠ e.id) := set_opE hk hi he (by decide)
    have hsv : (Bk.mk (b.set i e 2).all (b.done ++ [x])).served s = b.served s ++ if e.st = s then [x] else [] := by
      have h1 := served_congr (b := b) (b' := b.set i e 2) rfl (fun y hy => by
        obtain ⟨f, hf, rfl, _⟩ := o.d2 y hy
        exact set_stOf hk hi (by decide) hf) s
      rw [← h1]
      have h2 : (b.set i e 2).stOf x = e.st := by have := Bk.stOf_mem hk2 hnew; rw [← hx]; exact this
      show List.filter (fun y => decide ((b.set i e 2).stOf y = s)) (b.done ++ [x]) = _
      rw [List.filter_append]
      congr 1
      by_cases h : e.st = s <;> simp [h2, h]
    rw [hop, hsv, filter_comm, map_dr, o.eq s, hx]
    by_cases h : e.st = s
    · rw [if_pos h, List.append_assoc]
      congr 1
      have hfirst : b.first e.st = (b.opE.filter (atS s)).head? := by rw [Bk.first, find_filter, h]; rfl
      have hme : e ∈ b.opE.filter (atS s) := List.mem_filter.2 ⟨hmo, by simp [atS, h]⟩
      have hnd : ((b.opE.filter (atS s)).map Ent.id).Nodup := by
        refine List.Sublist.nodup (List.Sublist.map _ ?_) hk.nd
        exact (List.filter_sublist).trans List.filter_sublist
      rw [hfirst] at hfi
      generalize b.opE.filter (atS s) = l at hfi hme hnd
      cases l with
      | nil => cases hme
      | cons f r =>
        have hfx : f.id = x := hfi
        rw [List.map_cons, List.nodup_cons, hfx] at hnd
        rw [List.map_cons, hfx, List.singleton_append]
        have : dr x (r.map Ent.id) = r.map Ent.id := dr_id (List.all_eq_true.2 fun y hy => decide_eq_true fun h => hnd.1 (h ▸ hy))
        rw [← List.singleton_append, dr_app, this]
        simp [dr]
    · rw [if_neg h, List.append_nil]
      congr 1
      refine (dr_id (List.all_eq_true.2 fun y hy => decide_eq_true fun h' => h ?_)).symm
      obtain ⟨f, hf, rfl⟩ := List.mem_map.1 hy
      obtain ⟨h1, h2⟩ := List.mem_filter.1 hf
      have := Bk.uniq hk (Bk.opE_mem h1) hm (by rw [h', hx])
      subst this
      simpa [atS] using h2
end Go.Proofs.Ythnoccmngpoibaa.Ab
