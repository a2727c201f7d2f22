/- Chapter 16: plain law: numbers from 1 on, added, served or called off in turn, and added again. -/
import Derived.Test.YthnoccmngpoibaaY16l
namespace Go.Proofs.Ythnoccmngpoibaa.Ab
open Go
set_option linter.unusedVariables false
/-- what became of number j+1 when the first k are dealt with -/
def fate (k j : Nat) : Int := if j < k then (if (j + 1) % 2 = 0 then 3 else 2) else 1
def totE (s : Int) (k j : Nat) : Ent := ⟨(j : Int) + 1, s, (j : Int) + 1, fate k j⟩
def totN (s : Int) (j : Nat) : Ent := ⟨101 + (j : Int), s, (j : Int) + 1, 1⟩
def totA (s : Int) (n k : Nat) : List Ent := (List.range n).map (totE s k) ++ (List.range k).map (totN s)
def totD (k : Nat) : List Int := ((List.range k).filter fun j => decide ((j + 1) % 2 ≠ 0)).map fun (j : Nat) => (j : Int) + 1
def tot (s : Int) (n k : Nat) : Bk := ⟨totA s n k, totD k⟩
theorem tot_mem {s : Int} {n k : Nat} {e : Ent} (h : e ∈ totA s n k) : (∃ j, j < n ∧ e = totE s k j) ∨ ∃ j, j < k ∧ e = totN s j := by
  rcases List.mem_append.1 h with h | h
  · obtain ⟨j, hj, rfl⟩ := List.mem_map.1 h
    exact .inl ⟨j, List.mem_range.1 hj, rfl⟩
  · obtain ⟨j, hj, rfl⟩ := List.mem_map.1 h
    exact .inr ⟨j, List.mem_range.1 hj, rfl⟩
theorem totA_len (s : Int) (n k : Nat) : (totA s n k).length = n + k := by simp [totA]
theorem tot_nodup (s : Int) {n k : Nat} (hn : n ≤ 30) (hk : k ≤ n) : ((totA s n k).map Ent.id).Nodup := by
  rw [totA, List.map_append, List.map_map, List.map_map]
  refine List.nodup_append.2 ⟨?_, ?_, fun x hx y hy => ?_⟩
  · refine List.Pairwise.map _ (fun a b h => ?_) List.nodup_range
    simp only [Function.comp, totE]; omega
  · refine List.Pairwise.map _ (fun a b h => ?_) List.nodup_range
    simp only [Function.comp, totN]; omega
  · obtain ⟨j, hj, rfl⟩ := List.mem_map.1 hx
    obtain ⟨i, hi, rfl⟩ := List.mem_map.1 hy
    have := List.mem_range.1 hj
    simp only [Function.comp, totE, totN]; omega
theorem tot_ok (s : Int) {n k : Nat} (hn : n ≤ 30) (hk : k ≤ n) : (tot s n k).Ok where
  nd := tot_nodup s hn hk
  dk := fun x hx => by
    obtain ⟨j, hj, rfl⟩ := List.mem_map.1 hx
    have := List.mem_range.1 (List.mem_filter.1 hj).1
    exact ⟨totE s k j, List.mem_append.2 (.inl (List.mem_map_of_mem (List.mem_range.2 (by omega)))), rfl⟩
  len := by simp only [tot, totA_len]; omega
  dl := by
    simp only [tot, totD, List.length_map]
    exact Nat.le_trans (List.length_filter_le ..) (by rw [List.length_range]; omega)
  sr := fun e he => by
    rcases tot_mem he with ⟨j, _, rfl⟩ | ⟨j, _, rfl⟩
    · simp only [totE, fate]; split
      · split <;> simp
      · simp
    · exact .inl rfl
theorem mem_opE {b : Bk} {e : Ent} : e ∈ b.opE ↔ e ∈ b.all ∧ e.s = 1 := by
  rw [Bk.opE, List.mem_filter]; simp [isO]
theorem fate1 {k j : Nat} : fate k j = 1 ↔ k ≤ j := by
  unfold fate; split
  · split <;> simp <;> omega
  · simp; omega
/-- a new number is taken -/
theorem tot_add (s : Int) (hs : 0 ≤ s ∧ s < 40) {b : Bk} {id to : Int} (ht : 1 ≤ to ∧ to ≤ 30) (h1 : ∀ e ∈ b.all, e.id ≠ id) (h2 : ∀ e ∈ b.all, e.s = 1 → e.to ≠ to) (hl : b.all.length < 64) : b.add id s to = (b.addE id s to, true, 0) := by
  unfold Bk.add
  rw [if_neg (by omega), findX_none.2 h1]
  have hw : b.wanted to = none := List.find?_eq_none.2 fun e he => by
    obtain ⟨h3, h4⟩ := mem_opE.1 he
    simpa using h2 e h3 h4
  have := b.opE_len
  simp only [hw, Option.isSome_none, Bool.false_eq_true, if_false]
  rw [if_neg (by omega)]
/-- while a tote's request waits no other is taken -/
theorem tot_160 (s : Int) (hs : 0 ≤ s ∧ s < 40) {b : Bk} {id to : Int} (ht : 1 ≤ to ∧ to ≤ 30) (h1 : ∀ e ∈ b.all, e.id ≠ id) {e : Ent} (he : e ∈ b.all) (h2 : e.s = 1) (h3 : e.to = to) : b.add id s to = (b, false, 160) := by
  unfold Bk.add
  rw [if_neg (by omega), findX_none.2 h1]
  have hw : (b.wanted to).isSome = true := List.find?_isSome.2 ⟨e, mem_opE.2 ⟨he, h2⟩, by simp [h3]⟩
  simp only [hw, if_true]
theorem tot_step1 (s : Int) (hs : 0 ≤ s ∧ s < 40) {k : Nat} (hk : k < 30) : (tot s k 0).add ((k : Int) + 1) s ((k : Int) + 1) = (tot s (k + 1) 0, true, 0) := by
  rw [tot_add s hs (by omega) (fun e he => ?_) (fun e he _ => ?_) (by simp only [tot, totA_len]; omega)]
  · have : (tot s k 0).addE ((k : Int) + 1) s ((k : Int) + 1) = tot s (k + 1) 0 := by
      simp only [Bk.addE, tot, totA, List.range_zero, List.map_nil, List.append_nil, List.range_succ, List.map_append, List.map_cons]
      rfl
    rw [this]
  · rcases tot_mem he with ⟨j, hj, rfl⟩ | ⟨j, hj, rfl⟩
    · simp only [totE]; omega
    · omega
  · rcases tot_mem he with ⟨j, hj, rfl⟩ | ⟨j, hj, rfl⟩
    · simp only [totE]; omega
    · omega
theorem tot_step2 (s : Int) (hs : 0 ≤ s ∧ s < 40) {k : Nat} (hk : k < 30) : (tot s (k + 1) 0).add (101 + (k : Int)) s ((k : Int) + 1) = (tot s (k + 1) 0, false, 160) := by
  refine tot_160 s hs (by omega) (fun e he => ?_) (e := totE s 0 k) (List.mem_append.2 (.inl (List.mem_map_of_mem (List.mem_range.2 (by omega))))) (show fate 0 k = 1 from fate1.2 (Nat.zero_le k)) rfl
  rcases tot_mem he with ⟨j, hj, rfl⟩ | ⟨j, hj, rfl⟩
  · simp only [totE]; omega
  · omega
theorem totA_get (s : Int) {n k j : Nat} (hj : j < n) : (totA s n k)[j]? = some (totE s k j) := by
  rw [totA, List.getElem?_append_left (by simpa using hj), List.getElem?_map, List.getElem?_range hj]; rfl
theorem tot_find (s : Int) {n k : Nat} (hn : n ≤ 30) (hk : k < n) : findX Ent.id ((k : Int) + 1) (totA s n k) 0 = some (k, totE s k k) := by
  have hg := totA_get s (k := k) hk
  obtain ⟨i, h1, h2⟩ := findX_of (tot_nodup s hn (Nat.le_of_lt hk)) (List.mem_of_getElem? hg)
  have e1 : ((totA s n k).map Ent.id)[i]? = some (totE s k k).id := by rw [List.getElem?_map, h2]; rfl
  have e2 : ((totA s n k).map Ent.id)[k]? = some (totE s k k).id := by rw [List.getElem?_map, hg]; rfl
  have hi := (List.getElem?_eq_some_iff.1 e1).1
  have := (List.getElem?_inj hi (tot_nodup s hn (Nat.le_of_lt hk))).1 (e1.trans e2.symm)
  subst this
  exact h1
def totM (s : Int) (n k : Nat) : Bk := ⟨(List.range n).map (totE s (k + 1)) ++ (List.range k).map (totN s), totD (k + 1)⟩
theorem tot_set (s : Int) {n k : Nat} (hk : k < n) : (totA s n k).set k ⟨(k : Int) + 1, s, (k : Int) + 1, if (k + 1) % 2 = 0 then 3 else 2⟩ = (List.range n).map (totE s (k + 1)) ++ (List.range k).map (totN s) := by
  rw [totA, List.set_append_left _ _ (by simpa using hk)]
  congr 1
  apply List.ext_getElem?
  intro j
  rw [List.getElem?_set]
  split
  · rename_i h
    subst h
    rw [List.getElem?_map, List.getElem?_range hk]
    simp [hk, totE, fate]
  · rename_i h
    rw [List.getElem?_map, List.getElem?_map]
    by_cases hj : j < n
    · rw [List.getElem?_range hj]
      have : fate (k + 1) j = fate k j := by
        unfold fate
        by_cases h2 : j < k
        · rw [if_pos (by omega), if_pos h2]
        · rw [if_neg (by omega), if_neg h2]
      simp [totE, this]
    · rw [List.getElem?_eq_none (by simpa using hj)]; rfl
theorem totD_even {k : Nat} (h : (k + 1) % 2 = 0) : totD (k + 1) = totD k := by
  rw [totD, List.range_succ, List.filter_append, List.map_append, List.filter_cons, if_neg (by simp [h])]; simp [totD]
theorem totD_odd {k : Nat} (h : (k + 1) % 2 ≠ 0) : totD (k + 1) = totD k ++ [(k : Int) + 1] := by
  rw [totD, List.range_succ, List.filter_append, List.map_append, List.filter_cons, if_pos (by simpa using h)]; simp [totD]
theorem tot_cancel (s : Int) {n k : Nat} (hn : n ≤ 30) (hk : k < n) (h : (k + 1) % 2 = 0) : (tot s n k).cancel ((k : Int) + 1) = (totM s n k, true, 0) := by
  have hf := tot_find s hn hk
  have hs := tot_set s hk
  rw [if_pos h] at hs
  have h1 : (totE s k k).s = 1 := fate1.2 (Nat.le_refl k)
  simp only [Bk.cancel, tot, hf, h1, if_true, Bk.set, totM, totD_even h]
  rw [← hs]; rfl
theorem tot_first (s : Int) {n k : Nat} (hk : k < n) : (tot s n k).first s = some (totE s k k) := by
  have hall : ∀ j, j < n → (tot s n k).all[j]? = some (totE s k j) := fun j hj => totA_get s hj
  rw [Bk.first, Bk.opE, List.find?_filter]
  generalize (tot s n k).all = l at hall
  obtain ⟨hl, hg'⟩ := List.getElem?_eq_some_iff.1 (hall k hk)
  have h1 : (totE s k k).s = 1 := fate1.2 (Nat.le_refl k)
  rw [List.find?_eq_some_iff_getElem]
  refine ⟨by simp only [isO, h1]; simp [totE], k, hl, hg', fun j hj => ?_⟩
  obtain ⟨hl2, hg2'⟩ := List.getElem?_eq_some_iff.1 (hall j (by omega))
  have h2 : (totE s k j).s ≠ 1 := fun h => by have := fate1.1 h; omega
  rw [hg2']
  simp [isO, h2]
theorem tot_serve (s : Int) {n k : Nat} (hn : n ≤ 30) (hk : k < n) (h : (k + 1) % 2 ≠ 0) : (tot s n k).serve ((k : Int) + 1) = (totM s n k, 0) := by
  have hf := tot_find s hn hk
  have hs := tot_set s hk
  rw [if_neg h] at hs
  have h1 : (totE s k k).s = 1 := fate1.2 (Nat.le_refl k)
  have hfi : fid ((tot s n k).first (totE s k k).st) = (k : Int) + 1 := by
    show fid ((tot s n k).first s) = _
    rw [tot_first s hk]; rfl
  simp only [Bk.serve]
  have hf2 : findX Ent.id ((k : Int) + 1) (tot s n k).all 0 = some (k, totE s k k) := hf
  rw [hf2]
  simp only [h1, if_true, hfi]
  simp only [tot, totM, totD_odd h]
  rw [← hs]; rfl
theorem tot_step4 (s : Int) (hs : 0 ≤ s ∧ s < 40) {n k : Nat} (hn : n ≤ 30) (hk : k < n) : (totM s n k).add (101 + (k : Int)) s ((k : Int) + 1) = (tot s n (k + 1), true, 0) := by
  have hm : ∀ e ∈ (totM s n k).all, (∃ j, j < n ∧ e = totE s (k + 1) j) ∨ ∃ j, j < k ∧ e = totN s j := fun e h => by
    rcases List.mem_append.1 h with h | h
    · obtain ⟨j, hj, rfl⟩ := List.mem_map.1 h
      exact .inl ⟨j, List.mem_range.1 hj, rfl⟩
    · obtain ⟨j, hj, rfl⟩ := List.mem_map.1 h
      exact .inr ⟨j, List.mem_range.1 hj, rfl⟩
  rw [tot_add s hs (by omega) (fun e he => ?_) (fun e he h1 => ?_) (by simp [totM]; omega)]
  · have : (totM s n k).addE (101 + (k : Int)) s ((k : Int) + 1) = tot s n (k + 1) := by
      simp only [Bk.addE, tot, totM, totA, List.range_succ (n := k), List.map_append, List.map_cons, List.map_nil, List.append_assoc]
      rfl
    rw [this]
  · rcases hm e he with ⟨j, hj, rfl⟩ | ⟨j, hj, rfl⟩
    · simp only [totE]; omega
    · simp only [totN]; omega
  · rcases hm e he with ⟨j, hj, rfl⟩ | ⟨j, hj, rfl⟩
    · have := fate1.1 h1
      simp only [totE]; omega
    · simp only [totN]; omega
/-- at the end -/
theorem tot_end_open (s : Int) (n : Nat) : (tot s n n).opE = (List.range n).map (totN s) := by
  have e1 : ((List.range n).map (totE s n)).filter isO = [] := List.filter_eq_nil_iff.2 fun e he h => by
    obtain ⟨j, hj, rfl⟩ := List.mem_map.1 he
    have := List.mem_range.1 hj
    have h2 : fate n j = 1 := by
      have : (totE s n j).s = 1 := by simpa [isO] using h
      exact this
    have := fate1.1 h2; omega
  have e2 : ((List.range n).map (totN s)).filter isO = (List.range n).map (totN s) := List.filter_eq_self.2 fun e he => by
    obtain ⟨j, hj, rfl⟩ := List.mem_map.1 he; rfl
  rw [Bk.opE]
  show List.filter isO ((List.range n).map (totE s n) ++ (List.range n).map (totN s)) = _
  rw [List.filter_append, e1, e2, List.nil_append]
theorem totD_len (k : Nat) : (totD k).length = (k + 1) / 2 := by
  induction k with
  | zero => rfl
  | succ k ih =>
    by_cases h : (k + 1) % 2 = 0
    · rw [totD_even h, ih]; omega
    · rw [totD_odd h, List.length_append, ih]; simp; omega
theorem tot_end_served (s : Int) {n : Nat} (hn : n ≤ 30) : ((tot s n n).served s).length = (n + 1) / 2 := by
  have hk := tot_ok s hn (Nat.le_refl n)
  have : (tot s n n).served s = totD n := List.filter_eq_self.2 fun x hx => by
    obtain ⟨e, he, rfl⟩ := hk.dk x hx
    rw [Bk.stOf_mem hk he]
    rcases tot_mem he with ⟨j, _, rfl⟩ | ⟨j, _, rfl⟩ <;> simp [totE, totN]
  rw [this, totD_len]
theorem totM_ok (s : Int) {n k : Nat} (hn : n ≤ 30) (hk : k < n) : (totM s n k).Ok := by
  have h0 := tot_ok s hn (Nat.le_of_lt hk)
  by_cases h : (k + 1) % 2 = 0
  · have := Bk.cancel_ok h0 ((k : Int) + 1)
    rwa [tot_cancel s hn hk h] at this
  · have hd : (tot s n k).done.length < 1000000 := by simp only [tot, totD_len]; omega
    have := Bk.serve_ok h0 hd ((k : Int) + 1)
    rwa [tot_serve s hn hk h] at this
end Go.Proofs.Ythnoccmngpoibaa.Ab
