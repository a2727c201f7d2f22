/- Chapter 20: plain law: a ring. -/
import Derived.Test.YtpblhjaghkkdhaaY20i
import Derived.Test.YtpblhjaghkkdhaaY20g
namespace Go.Proofs.Ytpblhjaghkkdhaa.Ab
open Go
set_option linter.unusedVariables false
def ringN (i : Nat) : Nd := ⟨[110, UInt8.ofNat (97 + i)], 1, 0⟩
def ringE (n i : Nat) : Ed := ⟨i, ((i + 1) % n : Nat)⟩
def ring (n : Nat) : Lay := ⟨(List.range n).map ringN, (List.range n).map (ringE n)⟩
theorem ring_good {n : Nat} (h : 2 ≤ n ∧ n ≤ 7) : (ring n).good = true := by
  obtain ⟨h1, h2⟩ := h
  have : n = 2 ∨ n = 3 ∨ n = 4 ∨ n = 5 ∨ n = 6 ∨ n = 7 := by omega
  rcases this with rfl | rfl | rfl | rfl | rfl | rfl <;> rfl
theorem mod_next {n i : Nat} (h : 2 ≤ n ∧ n ≤ 7) : (i + 1) % n ≠ i % n := by
  obtain ⟨h1, h2⟩ := h
  have : n = 2 ∨ n = 3 ∨ n = 4 ∨ n = 5 ∨ n = 6 ∨ n = 7 := by omega
  rcases this with rfl | rfl | rfl | rfl | rfl | rfl <;> omega
theorem mod_near {n i k : Nat} (h : 2 ≤ n ∧ n ≤ 7) (h1 : k < i) (h2 : i < k + n) : i % n ≠ k % n := by
  obtain ⟨h3, h4⟩ := h
  have : n = 2 ∨ n = 3 ∨ n = 4 ∨ n = 5 ∨ n = 6 ∨ n = 7 := by omega
  rcases this with rfl | rfl | rfl | rfl | rfl | rfl <;> omega
theorem mod_back {n i : Nat} (h : n ≤ i) : (i - n) % n = i % n := by
  have : i % n = ((i - n) + n) % n := by congr 1; omega
  rw [this, Nat.add_mod_right]
def sq (first : Int) (i : Nat) : Int := (first + i) % 65536
theorem i16_wrap (x : Int) : IntKind.i16.wrap x = (x + 32768) % 65536 - 32768 := by
  simp only [IntKind.wrap, IntKind.signed, IntKind.bits, Bool.true_and]
  split
  · rename_i h
    have := of_decide_eq_true h
    omega
  · rename_i h
    have := of_decide_eq_false (Bool.not_eq_true _ ▸ h)
    omega
theorem dist_eq (a b : Int) : dist a b = (b - a + 32768) % 65536 - 32768 := by
  rw [dist, wi _ (by rw [i16_wrap]; omega) (by rw [i16_wrap]; omega), i16_wrap, IntKind.wrap_u16]
  omega
/-- behind i steps -/
structure Rg (n : Nat) (first : Int) (i : Nat) (p : Pl) : Prop where
  es : p.es = (ring n).es
  at_ : p.at_ = (List.replicate n 0).set (i % n) 1
  dl : p.ds.length = n + 1
  mv : p.mv = i
  d1 : ∀ j, i ≤ j → j < n → p.ds[j + 1]? = some ⟨false, false, 0, 0⟩
  d2 : ∀ k, k < i → i ≤ k + n → p.ds[k % n + 1]? = some ⟨false, true, sq first k, 1⟩
theorem ring_loc {n j : Nat} (hj : j < n) {p : Pl} (h : p.at_ = (List.replicate n 0).set j 1) : p.loc 1 = j := by
  rw [Pl.loc, if_neg (by decide), h]
  refine ixOf_un (List.getElem?_set_self (by simpa using hj)) fun i hi => ?_
  by_cases e : i = j
  · exact e
  · rw [List.getElem?_set_ne (Ne.symm e)] at hi
    have := (List.mem_replicate.1 (List.mem_of_getElem? hi)).2
    omega
theorem Rg.step {n : Nat} (hn : 2 ≤ n ∧ n ≤ 7) {first : Int} {i : Nat} {p : Pl} (h : Rg n first i p) (hi : i < 1000) :
    ∃ q, p.hear ⟨1, ((i % n + 1 : Nat) : Int), sq first i, 1, 0⟩ = (q, ⟨2, ((i % n + 1 : Nat) : Int), sq first i, 1, 0⟩, true) ∧ Rg n first (i + 1) q ∧
      (n ≤ i → q.hear ⟨1, ((i % n + 1 : Nat) : Int), (sq first i - n) % 65536, 1, 0⟩ = (q, Te.nil, false)) := by
  have hm : i % n < n := Nat.mod_lt _ (by omega)
  have hm2 : (i + 1) % n < n := Nat.mod_lt _ (by omega)
  have hne := mod_next (i := i) hn
  -- the device
  obtain ⟨d, hd, hb, hk⟩ : ∃ d, p.ds[i % n + 1]? = some d ∧ d.broken = false ∧ (d.did = true → d.seq ≠ sq first i ∧ dist d.seq (sq first i) > 0) := by
    by_cases hin : i < n
    · refine ⟨_, h.d1 (i % n) (by rw [Nat.mod_eq_of_lt hin]; exact Nat.le_refl _) hm, rfl, fun h => by cases h⟩
    · have := h.d2 (i - n) (by omega) (by omega)
      rw [mod_back (by omega)] at this
      refine ⟨_, this, rfl, fun _ => ?_⟩
      rw [dist_eq]
      simp only [sq]
      constructor <;> omega
  have hdv : (((i % n + 1 : Nat) : Int)).toNat = i % n + 1 := by omega
  have hw : p.works ((i % n + 1 : Nat) : Int) = true := by
    have h1 : p.noDev ((i % n + 1 : Nat) : Int) = false := by simp only [Pl.noDev, h.dl, decide_eq_false_iff_not]; omega
    simp only [Pl.works, h1, brk, hdv, hd, hb]; rfl
  have he : p.es[((((i % n + 1 : Nat) : Int)) - 1).toNat]? = some (ringE n (i % n)) := by
    rw [show ((((i % n + 1 : Nat) : Int)) - 1).toNat = i % n by omega, h.es]
    simp only [ring, List.getElem?_map, List.getElem?_range hm, Option.map_some]
  have ea : (ringE n (i % n)).a = ((i % n : Nat) : Int) := rfl
  have eb : (ringE n (i % n)).b = (((i + 1) % n : Nat) : Int) := by
    show (((i % n + 1) % n : Nat) : Int) = _
    rw [Nat.mod_add_mod]
  have ga : p.at_[i % n]? = some 1 := by rw [h.at_]; exact List.getElem?_set_self (by simpa using hm)
  have gb : p.at_[(i + 1) % n]? = some 0 := by rw [h.at_, List.getElem?_set_ne (Ne.symm hne), List.getElem?_replicate, if_pos hm2]
  have ta : p.tote (ringE n (i % n)).a = 1 := tote_get (by rw [ea]; omega) (by rw [ea]; exact ga)
  have tb : p.tote (ringE n (i % n)).b = 0 := tote_get (by rw [eb]; omega) (by rw [eb]; exact gb)
  have hh : p.hear ⟨1, ((i % n + 1 : Nat) : Int), sq first i, 1, 0⟩ = (⟨p.es, (p.at_.set (i % n) 0).set ((i + 1) % n) 1, p.ds.set (i % n + 1) ⟨d.broken, true, sq first i, 1⟩, IntKind.i64.wrap (p.mv + 1)⟩, ⟨2, ((i % n + 1 : Nat) : Int), sq first i, 1, 0⟩, true) := by
    rw [Pl.hear, if_neg (by rw [hw]; decide), if_pos rfl]
    simp only [he, hdv, Pl.move, hd]
    rw [if_neg (fun k => (hk k.1).1 k.2.1), if_neg (fun k => k.2 (hk k.1).2), if_neg (by rw [ta]; decide), if_neg (by rw [tb]; decide), ea, eb]
    rfl
  have hR : Rg n first (i + 1) ⟨p.es, (p.at_.set (i % n) 0).set ((i + 1) % n) 1, p.ds.set (i % n + 1) ⟨d.broken, true, sq first i, 1⟩, IntKind.i64.wrap (p.mv + 1)⟩ := by
    refine ⟨h.es, ?_, by simp only [List.length_set]; exact h.dl, ?_, fun j h1 h2 => ?_, fun k h1 h2 => ?_⟩
    · simp only [h.at_, List.set_set]
      congr 1
      exact List.set_replicate_self ..
    · simp only [h.mv]
      rw [wS (by omega)]
    · simp only
      rw [List.getElem?_set_ne (by rw [Nat.mod_eq_of_lt (by omega)]; omega)]
      exact h.d1 j (by omega) h2
    · simp only
      by_cases e : k = i
      · subst e
        rw [List.getElem?_set_self (List.getElem?_eq_some_iff.1 hd).1, hb]
      · have := mod_near hn (i := i) (k := k) (by omega) (by omega)
        rw [List.getElem?_set_ne (by omega)]
        exact h.d2 k (by omega) (by omega)
  refine ⟨_, hh, hR, fun hin => ?_⟩
  have hw2 := p.hear_works ⟨1, ((i % n + 1 : Nat) : Int), sq first i, 1, 0⟩ ((i % n + 1 : Nat) : Int)
  rw [hh, hw] at hw2
  rw [Pl.hear, if_neg (by simp only; rw [hw2]; decide), if_pos rfl]
  simp only [he, hdv, Pl.move]
  rw [List.getElem?_set_self (List.getElem?_eq_some_iff.1 hd).1]
  simp only
  rw [if_neg (fun k => by have := k.2.1; simp only [sq] at this; omega), if_pos ⟨trivial, by rw [dist_eq]; simp only [sq]; omega⟩]
theorem ring_new {n : Nat} (hn : 2 ≤ n ∧ n ≤ 7) (first : Int) : ((Pl.new (ring n)).put 1 0).2 = 0 ∧ Rg n first 0 ((Pl.new (ring n)).put 1 0).1 := by
  have hl : (Pl.new (ring n)).at_.length = n := by simp [Pl.new, ring]
  have ha : (Pl.new (ring n)).at_ = List.replicate n 0 := by simp [Pl.new, ring]
  have hloc : (Pl.new (ring n)).loc 1 = -1 := by
    rw [Pl.loc, if_neg (by decide), ha]
    exact ixOf_none fun y hy => by rw [(List.mem_replicate.1 hy).2]; decide
  have ht : (Pl.new (ring n)).tote 0 = 0 := tote_get (by decide) (by rw [ha, List.getElem?_replicate, if_pos (show (0 : Int).toNat < n from (by have := hn.1; show 0 < n; omega))])
  have hp : (Pl.new (ring n)).put 1 0 = (⟨(ring n).es, (List.replicate n 0).set 0 1, List.replicate (n + 1) ⟨false, false, 0, 0⟩, 0⟩, 0) := by
    have hc : ¬((1 : Int) < 1 ∨ 30 < (1 : Int) ∨ (0 : Int) < 0 ∨ ((Pl.new (ring n)).at_.length : Int) ≤ 0) := by rw [hl]; omega
    rw [Pl.put, if_neg hc, hloc, if_neg (by decide), ht, if_neg (by decide), ha]
    simp [Pl.new, ring]
  rw [hp]
  refine ⟨rfl, rfl, by simp, by simp, rfl, fun j h1 h2 => ?_, fun k h1 h2 => absurd h1 (Nat.not_lt_zero _)⟩
  simp only
  rw [List.getElem?_replicate, if_pos (by omega)]
end Go.Proofs.Ytpblhjaghkkdhaa.Ab
