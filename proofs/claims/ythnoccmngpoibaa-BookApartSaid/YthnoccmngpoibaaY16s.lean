/- Chapter 16: plain law: the requests of one station alone. -/
import Derived.Test.YthnoccmngpoibaaY16o
namespace Go.Proofs.Ythnoccmngpoibaa.Ab
open Go
set_option linter.unusedVariables false
structure Ap (A B : Bk) (s : Int) (ids : List Int) : Prop where
  ka : A.Ok
  kb : B.Ok
  ra : ∀ e ∈ A.all, 1 ≤ e.to ∧ e.to ≤ 30 ∧ e.st = e.to % 3
  un : (A.opE.map Ent.to).Nodup
  all : B.all = A.all.filter (atS s)
  done : B.done = A.done.filter fun x => decide (A.stOf x = s)
  ids : ids = B.all.map Ent.id
theorem Ap.nil (s : Int) : Ap Bk.nil Bk.nil s [] := ⟨Bk.nil_ok, Bk.nil_ok, fun e he => by simp [Bk.nil] at he, List.nodup_nil, rfl, rfl, rfl⟩
variable {A B : Bk} {s : Int} {ids : List Int}
theorem Ap.opE (h : Ap A B s ids) : B.opE = A.opE.filter (atS s) := by rw [Bk.opE, h.all, filter_comm, Bk.opE]
theorem Ap.first (h : Ap A B s ids) : B.first s = A.first s := by
  rw [Bk.first, Bk.first, h.opE, List.find?_filter]
  congr 1
  funext e
  simp [atS]
theorem Ap.mem (h : Ap A B s ids) {x : Int} : x ∈ ids ↔ ∃ e ∈ A.all, e.id = x ∧ e.st = s := by
  rw [h.ids, h.all, List.mem_map]
  constructor
  · rintro ⟨e, he, rfl⟩
    obtain ⟨h1, h2⟩ := List.mem_filter.1 he
    exact ⟨e, h1, rfl, by simpa [atS] using h2⟩
  · rintro ⟨e, he, rfl, h2⟩
    exact ⟨e, List.mem_filter.2 ⟨he, by simp [atS, h2]⟩, rfl⟩
theorem Ap.served (h : Ap A B s ids) : B.served s = A.served s := by
  have h1 : B.served s = B.done := List.filter_eq_self.2 fun x hx => by
    obtain ⟨e, he, rfl⟩ := h.kb.dk x hx
    rw [Bk.stOf_mem h.kb he]
    rw [h.all] at he
    have := (List.mem_filter.1 he).2
    simpa [atS] using this
  rw [h1, h.done]; rfl
theorem nodup_bound : ∀ (n : Nat) (l : List Int), l.Nodup → (∀ x ∈ l, 1 ≤ x ∧ x ≤ n) → l.length ≤ n
  | 0, l, _, h => by
    cases l with
    | nil => exact Nat.le_refl 0
    | cons x l => have := h x (.head _); omega
  | n + 1, l, hn, h => by
    by_cases hm : ((n + 1 : Nat) : Int) ∈ l
    · have h1 := nodup_bound n (l.erase ((n + 1 : Nat) : Int)) (hn.erase _) fun x hx => by
        have h2 := hn.mem_erase_iff.1 hx
        have := h x h2.2
        have := h2.1
        omega
      rw [List.length_erase_of_mem hm] at h1
      omega
    · have := nodup_bound n l hn fun x hx => by
        have h2 := h x hx
        have : x ≠ ((n + 1 : Nat) : Int) := fun e => hm (e ▸ hx)
        omega
      omega
theorem Ap.len (h : Ap A B s ids) : A.opE.length ≤ 30 := by
  have := nodup_bound 30 (A.opE.map Ent.to) h.un fun x hx => by
    obtain ⟨e, he, rfl⟩ := List.mem_map.1 hx
    have := h.ra e (Bk.opE_mem he)
    omega
  rwa [List.length_map] at this
theorem addE_ok {b : Bk} (hk : b.Ok) (hl : b.all.length < 1000000) {id st to : Int} (hf : findX Ent.id id b.all 0 = none) : (b.addE id st to).Ok := by
  refine ⟨?_, fun y hy => ?_, by simp only [Bk.addE, List.length_append, List.length_cons, List.length_nil]; omega, hk.dl, fun e he => ?_⟩
  · simp only [Bk.addE, List.map_append, List.map_cons, List.map_nil]
    refine List.nodup_append.2 ⟨hk.nd, by simp, fun x hx y hy => ?_⟩
    rw [List.mem_singleton.1 hy]
    obtain ⟨e, he, rfl⟩ := List.mem_map.1 hx
    exact findX_none.1 hf e he
  · obtain ⟨e, he, h⟩ := hk.dk y hy
    exact ⟨e, List.mem_append.2 (.inl he), h⟩
  · rcases List.mem_append.1 he with he | he
    · exact hk.sr e he
    · rw [List.mem_singleton.1 he]; exact .inl rfl
theorem addE_stOf {b : Bk} (hk : b.Ok) {id st to : Int} (hk2 : (b.addE id st to).Ok) {x : Int} (hx : x ∈ b.done) : (b.addE id st to).stOf x = b.stOf x := by
  obtain ⟨e, he, rfl⟩ := hk.dk x hx
  rw [Bk.stOf_mem hk he, Bk.stOf_mem hk2 (List.mem_append.2 (.inl he))]
/-- one more in A, and in B where it is of the station -/
theorem Ap.addE (h : Ap A B s ids) (hl : A.all.length < 1000000) {id st to : Int} (hf : findX Ent.id id A.all 0 = none) (hr : 1 ≤ to ∧ to ≤ 30) (hst : st = to % 3) (hw : A.wanted to = none) :
    (st = s → Ap (A.addE id st to) (B.addE id st to) s (ids ++ [id])) ∧ (st ≠ s → Ap (A.addE id st to) B s ids) := by
  have ka := addE_ok (id := id) (st := st) (to := to) h.ka hl hf
  have hop : (A.addE id st to).opE = A.opE ++ [⟨id, st, to, 1⟩] := by rw [Bk.addE, Bk.opE, List.filter_append]; rfl
  have ra : ∀ e ∈ (A.addE id st to).all, 1 ≤ e.to ∧ e.to ≤ 30 ∧ e.st = e.to % 3 := fun e he => by
    rcases List.mem_append.1 he with he | he
    · exact h.ra e he
    · rw [List.mem_singleton.1 he]; exact ⟨hr.1, hr.2, hst⟩
  have un : ((A.addE id st to).opE.map Ent.to).Nodup := by
    rw [hop, List.map_append]
    refine List.nodup_append.2 ⟨h.un, by simp, fun x hx y hy => ?_⟩
    obtain ⟨e, he, rfl⟩ := List.mem_map.1 hx
    rw [List.mem_singleton.1 hy]
    simpa using List.find?_eq_none.1 hw e he
  have hd : (A.addE id st to).done.filter (fun x => decide ((A.addE id st to).stOf x = s)) = A.done.filter fun x => decide (A.stOf x = s) :=
    List.filter_congr fun x hx => by rw [addE_stOf h.ka ka hx]
  constructor
  · intro e
    have hfb : findX Ent.id id B.all 0 = none := findX_none.2 fun f hfm => findX_none.1 hf f (by rw [h.all] at hfm; exact (List.mem_filter.1 hfm).1)
    have hbl : B.all.length < 1000000 := by rw [h.all]; exact Nat.lt_of_le_of_lt (List.length_filter_le ..) hl
    refine ⟨ka, addE_ok h.kb hbl hfb, ra, un, ?_, h.done.trans hd.symm, ?_⟩
    · simp only [Bk.addE, List.filter_append, h.all]
      simp [atS, e]
    · simp only [Bk.addE, List.map_append, h.ids]; rfl
  · intro e
    refine ⟨ka, h.kb, ra, un, ?_, h.done.trans hd.symm, h.ids⟩
    simp only [Bk.addE, List.filter_append, h.all]
    simp [atS, e]
theorem set_map {e f : Ent} : ∀ {l : List Ent} {i : Nat}, (l.map Ent.id).Nodup → l[i]? = some e → l.set i f = l.map fun y => if y.id = e.id then f else y
  | [], i, _, h => by simp at h
  | x :: l, 0, hn, h => by
    simp at h; subst h
    rw [List.map_cons, List.nodup_cons] at hn
    rw [List.set_cons_zero, List.map_cons, if_pos rfl]
    congr 1
    have : l.map (fun y => if y.id = x.id then f else y) = l.map id := List.map_congr_left fun y hy => by
      rw [if_neg (fun (h : y.id = x.id) => hn.1 (by rw [← h]; exact List.mem_map_of_mem hy))]; rfl
    rw [this, List.map_id]
  | x :: l, i + 1, hn, h => by
    rw [List.map_cons, List.nodup_cons] at hn
    have hne : x.id ≠ e.id := fun h' => hn.1 (h' ▸ List.mem_map_of_mem (List.mem_of_getElem? (by simpa using h)))
    rw [List.set_cons_succ, List.map_cons, if_neg hne, set_map hn.2 (by simpa using h)]
/-- one of A is dealt with, and in B where it is of the station -/
theorem Ap.set (h : Ap A B s ids) {x : Int} {i : Nat} {e : Ent} {s2 : Int} (hf : findX Ent.id x A.all 0 = some (i, e)) (h1 : e.s = 1) (hs : s2 = 2 ∨ s2 = 3) :
    (e.st = s → ∃ j, findX Ent.id x B.all 0 = some (j, e) ∧ Ap (A.set i e s2) (B.set j e s2) s ids) ∧ (e.st ≠ s → Ap (A.set i e s2) B s ids) := by
  obtain ⟨hm, hx, hi⟩ := findX_mem hf
  have hs3 : s2 = 1 ∨ s2 = 2 ∨ s2 = 3 := .inr hs
  have ka := Bk.set_ok h.ka hi hs3
  have ra : ∀ f ∈ (A.set i e s2).all, 1 ≤ f.to ∧ f.to ≤ 30 ∧ f.st = f.to % 3 := fun f hf => by
    rcases List.mem_or_eq_of_mem_set hf with hf | rfl
    · exact h.ra f hf
    · exact h.ra e hm
  have un : ((A.set i e s2).opE.map Ent.to).Nodup := by
    rw [set_opE h.ka hi h1 (by omega)]
    exact List.Sublist.nodup (List.Sublist.map _ List.filter_sublist) h.un
  have hd : (A.set i e s2).done.filter (fun x => decide ((A.set i e s2).stOf x = s)) = A.done.filter fun x => decide (A.stOf x = s) :=
    List.filter_congr fun y hy => by
      obtain ⟨f, hf, rfl, _⟩ := h.ka.dk y hy
      rw [set_stOf h.ka hi hs3 hf]
  have hsA : (A.set i e s2).all = A.all.map fun y => if y.id = e.id then ⟨e.id, e.st, e.to, s2⟩ else y := set_map h.ka.nd hi
  have hp : ∀ y ∈ A.all, atS s (if y.id = e.id then ⟨e.id, e.st, e.to, s2⟩ else y) = atS s y := fun y hy => by
    by_cases hye : y.id = e.id
    · rw [if_pos hye, Bk.uniq h.ka hy hm hye]; rfl
    · rw [if_neg hye]
  have hfl : (A.set i e s2).all.filter (atS s) = (A.all.filter (atS s)).map fun y => if y.id = e.id then ⟨e.id, e.st, e.to, s2⟩ else y := by
    rw [hsA, List.filter_map]
    congr 1
    exact List.filter_congr fun y hy => hp y hy
  constructor
  · intro hst
    have hmb : e ∈ B.all := by rw [h.all]; exact List.mem_filter.2 ⟨hm, by simp [atS, hst]⟩
    obtain ⟨j, hj, hj2⟩ := h.kb.find hmb
    rw [hx] at hj
    have hsB : (B.set j e s2).all = B.all.map fun y => if y.id = e.id then ⟨e.id, e.st, e.to, s2⟩ else y := set_map h.kb.nd hj2
    refine ⟨j, hj, ka, Bk.set_ok h.kb hj2 hs3, ra, un, ?_, h.done.trans hd.symm, ?_⟩
    · rw [hsB, hfl, h.all]
    · rw [h.ids, hsB, List.map_map]
      refine List.map_congr_left fun y hy => ?_
      simp only [Function.comp]
      split
      · assumption
      · rfl
  · intro hst
    refine ⟨ka, h.kb, ra, un, ?_, h.done.trans hd.symm, h.ids⟩
    rw [hfl, h.all]
    have : (A.all.filter (atS s)).map (fun y => if y.id = e.id then ⟨e.id, e.st, e.to, s2⟩ else y) = (A.all.filter (atS s)).map id := List.map_congr_left fun y hy => by
      obtain ⟨hy1, hy2⟩ := List.mem_filter.1 hy
      rw [if_neg fun hye => hst (by rw [← Bk.uniq h.ka hy1 hm hye]; simpa [atS] using hy2)]; rfl
    rw [this, List.map_id]
theorem Ap.wanted (h : Ap A B s ids) {to : Int} (hs : to % 3 = s) : (B.wanted to).isSome = (A.wanted to).isSome := by
  rw [Bool.eq_iff_iff, Bk.wanted, Bk.wanted, List.find?_isSome, List.find?_isSome, h.opE]
  constructor
  · rintro ⟨e, he, h2⟩
    exact ⟨e, (List.mem_filter.1 he).1, h2⟩
  · rintro ⟨e, he, h2⟩
    have h3 := (h.ra e (Bk.opE_mem he)).2.2
    have hto : e.to = to := by simpa using h2
    exact ⟨e, List.mem_filter.2 ⟨he, by simp [atS, h3, hto, hs]⟩, h2⟩
theorem add_bad {b : Bk} {id st to : Int} (hb : st < 0 ∨ st ≥ 40 ∨ to < 1 ∨ to > 30) : b.add id st to = (b, false, 1) := by unfold Bk.add; rw [if_pos hb]
theorem add_wanted {b : Bk} {id st to : Int} (hb : ¬(st < 0 ∨ st ≥ 40 ∨ to < 1 ∨ to > 30)) (hf : findX Ent.id id b.all 0 = none) (hw : (b.wanted to).isSome = true) : b.add id st to = (b, false, 160) := by
  unfold Bk.add; rw [if_neg hb, hf]; simp only [hw, if_true]
theorem add_new {b : Bk} {id st to : Int} (hb : ¬(st < 0 ∨ st ≥ 40 ∨ to < 1 ∨ to > 30)) (hf : findX Ent.id id b.all 0 = none) (hw : (b.wanted to).isSome = false) (hl : b.opE.length < 64) : b.add id st to = (b.addE id st to, true, 0) := by
  unfold Bk.add; rw [if_neg hb, hf]; simp only [hw, Bool.false_eq_true, if_false]; rw [if_neg (by omega)]
theorem Ap.add (h : Ap A B s ids) (hl : A.all.length < 1000000) {id st to : Int} (hf : findX Ent.id id A.all 0 = none) (hr : 1 ≤ to ∧ to ≤ 30 → st = to % 3) :
    (st = s → (B.add id st to).2.1 = (A.add id st to).2.1 ∧ Ap (A.add id st to).1 (B.add id st to).1 s (if (A.add id st to).2.1 = true then ids ++ [id] else ids)) ∧ (st ≠ s → Ap (A.add id st to).1 B s ids) := by
  by_cases hb : st < 0 ∨ st ≥ 40 ∨ to < 1 ∨ to > 30
  · rw [add_bad hb, add_bad hb]
    exact ⟨fun _ => ⟨rfl, by simpa using h⟩, fun _ => h⟩
  · have hrr : 1 ≤ to ∧ to ≤ 30 := by omega
    have hfb : findX Ent.id id B.all 0 = none := findX_none.2 fun f hfm => findX_none.1 hf f (by rw [h.all] at hfm; exact (List.mem_filter.1 hfm).1)
    have hla : A.opE.length < 64 := by have := h.len; omega
    have hlb : B.opE.length < 64 := by
      have : B.opE.length ≤ A.opE.length := by rw [h.opE]; exact List.length_filter_le ..
      omega
    cases hw : (A.wanted to).isSome with
    | true =>
      rw [add_wanted hb hf hw]
      refine ⟨fun e => ?_, fun _ => h⟩
      have hwb : (B.wanted to).isSome = true := by rw [h.wanted (by rw [← hr hrr]; exact e)]; exact hw
      rw [add_wanted hb hfb hwb]
      exact ⟨rfl, by simpa using h⟩
    | false =>
      have hwn : A.wanted to = none := by simpa using hw
      rw [add_new hb hf hw hla]
      obtain ⟨p1, p2⟩ := h.addE hl hf hrr (hr hrr) hwn
      refine ⟨fun e => ?_, p2⟩
      have hwb : (B.wanted to).isSome = false := by rw [h.wanted (by rw [← hr hrr]; exact e)]; exact hw
      rw [add_new hb hfb hwb hlb]
      exact ⟨rfl, by simpa using p1 e⟩
theorem Ap.find (h : Ap A B s ids) {x : Int} (hx : x ∈ ids) : ∃ i j e, findX Ent.id x A.all 0 = some (i, e) ∧ findX Ent.id x B.all 0 = some (j, e) ∧ e.st = s := by
  obtain ⟨e, he, rfl, hst⟩ := h.mem.1 hx
  obtain ⟨i, hi, _⟩ := h.ka.find he
  obtain ⟨j, hj, _⟩ := h.kb.find (e := e) (by rw [h.all]; exact List.mem_filter.2 ⟨he, by simp [atS, hst]⟩)
  exact ⟨i, j, e, hi, hj, hst⟩
theorem Ap.out (h : Ap A B s ids) {x : Int} (hx : x ∉ ids) {i : Nat} {e : Ent} (hf : findX Ent.id x A.all 0 = some (i, e)) : e.st ≠ s := fun hst => by
  obtain ⟨hm, hx2, _⟩ := findX_mem hf
  exact hx (h.mem.2 ⟨e, hm, hx2, hst⟩)
theorem Ap.cancel (h : Ap A B s ids) (x : Int) : (x ∈ ids → (B.cancel x).2.2 = (A.cancel x).2.2 ∧ Ap (A.cancel x).1 (B.cancel x).1 s ids) ∧ (x ∉ ids → Ap (A.cancel x).1 B s ids) := by
  constructor
  · intro hx
    obtain ⟨i, j, e, hi, hj, hst⟩ := h.find hx
    simp only [Bk.cancel, hi, hj]
    by_cases h1 : e.s = 1
    · simp only [h1, if_true]
      obtain ⟨j', hj', ap⟩ := (h.set hi h1 (s2 := 3) (.inr rfl)).1 hst
      rw [hj] at hj'
      cases hj'
      exact ⟨by trivial, ap⟩
    · simp only [h1, if_false]
      split
      · exact ⟨rfl, h⟩
      · split <;> exact ⟨rfl, h⟩
  · intro hx
    rcases Bk.cancel_cases h.ka x with ⟨_, e2⟩ | ⟨_, _, i, e, hf, he, e3⟩
    · rw [e2]; exact h
    · rw [e3]
      exact (h.set hf he (.inr rfl)).2 (h.out hx hf)
theorem Ap.push (h : Ap A B s ids) {x : Int} {e : Ent} (he : e ∈ A.all) (hx : e.id = x) (ka : (Bk.mk A.all (A.done ++ [x])).Ok) :
    (e.st = s → (Bk.mk B.all (B.done ++ [x])).Ok → Ap ⟨A.all, A.done ++ [x]⟩ ⟨B.all, B.done ++ [x]⟩ s ids) ∧ (e.st ≠ s → Ap ⟨A.all, A.done ++ [x]⟩ B s ids) := by
  have hst : A.stOf x = e.st := by rw [← hx]; exact Bk.stOf_mem h.ka he
  have hd : (A.done ++ [x]).filter (fun y => decide ((Bk.mk A.all (A.done ++ [x])).stOf y = s)) = (A.done.filter fun y => decide (A.stOf y = s)) ++ [x].filter fun y => decide (A.stOf y = s) := List.filter_append ..
  constructor
  · intro hs kb
    refine ⟨ka, kb, h.ra, h.un, h.all, ?_, h.ids⟩
    show B.done ++ [x] = _
    rw [hd, h.done]
    simp [hst, hs]
  · intro hs
    refine ⟨ka, h.kb, h.ra, h.un, h.all, ?_, h.ids⟩
    rw [hd, h.done]
    simp [hst, hs]
theorem Ap.serve (h : Ap A B s ids) (hl : A.done.length < 1000000) (x : Int) : (x ∈ ids → (B.serve x).2 = (A.serve x).2 ∧ Ap (A.serve x).1 (B.serve x).1 s ids) ∧ (x ∉ ids → Ap (A.serve x).1 B s ids) := by
  have kA := Bk.serve_ok h.ka hl x
  constructor
  · intro hx
    have hlb : B.done.length < 1000000 := by rw [h.done]; exact Nat.lt_of_le_of_lt (List.length_filter_le ..) hl
    have kB := Bk.serve_ok h.kb hlb x
    obtain ⟨i, j, e, hi, hj, hst⟩ := h.find hx
    have hfi := h.first
    rw [← hst] at hfi
    simp only [Bk.serve, hi, hj] at kA kB ⊢
    rw [hfi] at kB ⊢
    by_cases h1 : e.s = 1
    · rw [if_pos h1] at kA kB
      rw [if_pos h1, if_pos h1]
      by_cases h2 : fid (A.first e.st) = x
      · rw [if_pos h2] at kA kB
        rw [if_pos h2, if_pos h2]
        obtain ⟨j', hj', ap⟩ := (h.set hi h1 (s2 := 2) (.inl rfl)).1 hst
        rw [hj] at hj'
        cases hj'
        obtain ⟨hm, hx2, hi2⟩ := findX_mem hi
        have hnew : (⟨e.id, e.st, e.to, 2⟩ : Ent) ∈ (A.set i e 2).all := List.mem_iff_getElem?.2 ⟨i, List.getElem?_set_self (List.getElem?_eq_some_iff.1 hi2).1⟩
        exact ⟨rfl, (ap.push hnew hx2 kA).1 hst kB⟩
      · rw [if_neg h2, if_neg h2]; exact ⟨rfl, h⟩
    · rw [if_neg h1, if_neg h1]; exact ⟨rfl, h⟩
  · intro hx
    rcases Bk.serve_cases A x with ⟨_, e2⟩ | ⟨_, i, e, hf, he, hfi, e3⟩
    · rw [e2]; exact h
    · rw [e3] at kA ⊢
      obtain ⟨hm, hx2, hi2⟩ := findX_mem hf
      have hnew : (⟨e.id, e.st, e.to, 2⟩ : Ent) ∈ (A.set i e 2).all := List.mem_iff_getElem?.2 ⟨i, List.getElem?_set_self (List.getElem?_eq_some_iff.1 hi2).1⟩
      have hne := h.out hx hf
      exact (((h.set hf he (.inl rfl)).2 hne).push hnew hx2 kA).2 hne
end Go.Proofs.Ythnoccmngpoibaa.Ab
