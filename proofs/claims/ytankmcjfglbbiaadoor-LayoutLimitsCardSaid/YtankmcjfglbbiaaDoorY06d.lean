/- Chapter 06: LayoutLimits. -/
import Derived.Test.YtankmcjfglbbiaaDoorY06b
namespace Go.Proofs.YtankmcjfglbbiaaDoor.Ab
open Go
set_option linter.unusedVariables false
set_option linter.unusedSimpArgs false
variable {T : AT}
theorem umod (x : Int) (k : Nat) (hk : 0 < k) (hk2 : k ≤ 100000) : ∃ v : Nat, IntKind.i64.wrap ((IntKind.u64.wrap x).tmod (k : Int)) = (v : Int) ∧ v < k := by
  have e : IntKind.u64.wrap x = x % 18446744073709551616 := rfl
  have h0 : 0 ≤ x % 18446744073709551616 := Int.emod_nonneg _ (by decide)
  have h1 := Int.emod_nonneg (x % 18446744073709551616) (show (k : Int) ≠ 0 by omega)
  have h2 := Int.emod_lt_of_pos (x % 18446744073709551616) (show (0 : Int) < k by omega)
  refine ⟨(x % 18446744073709551616 % (k : Int)).toNat, ?_, by omega⟩
  rw [e, Int.tmod_eq_emod_of_nonneg h0, wi _ (by omega) (by omega)]
  omega
def dg (k : Nat) : UInt8 := UInt8.ofNat (48 + k)
def dig (n : Nat) : List UInt8 := if n = 0 then [48] else if n < 10 then [dg n] else [dg (n / 10), dg (n % 10)]
theorem dg_val {k : Nat} (h : k < 10) : IntKind.u8.wrap (48 + (k : Int)) = (((dg k).toNat : Nat) : Int) := by
  rw [dg, UInt8.toNat_ofNat', show IntKind.u8.wrap (48 + (k : Int)) = (48 + (k : Int)) % 256 from rfl]
  omega
structure TabD (T : AT) : Prop extends TabF T where
  digits : T i_stillageref01_Digits = some (.fn c_stillageref01_Digits)
theorem digits_spec (c : TabD T) (n : Nat) (hn : n < 100) : Ret2 T 0 i_stillageref01_Digits [.i .i64 n] [] (fun v h' => v = .s (dig n) ∧ h' = []) := by
  refine Ret2_fnv c.digits rfl rfl ?_
  by_cases h0 : n = 0
  · subst h0
    (repeat' with_reducible first |apply qA|apply qB|apply qC|apply qD|apply qE|apply qF|(apply qG;decide)|apply qH|apply qI|apply qJ|apply qK|((first|apply qL|apply qM|apply qN|apply qO|((first|apply qP|apply qQ);decide +kernel));(conv=>lhs;simp only[go_sem, ibin, ishift])<;>rfl)|((first|apply qR|apply qS);(conv=>lhs;simp only[go_sem])<;>rfl;rfl)|((first|apply qT|apply qU);(conv=>lhs;simp only[go_sem])<;>rfl;rfl)|apply qV|apply qW|apply qX|apply qY|apply qZ)
    refine ⟨by first | exact .inr rfl | exact .inl rfl, _, _, (by (conv => lhs; simp only [go_sem, ibin, ishift]) <;> with_reducible rfl), (by (conv => lhs; simp only [go_sem, ibin, ishift]) <;> with_reducible rfl), ?_⟩
    refine ⟨[], by decide, rfl, ?_⟩
    exact ⟨rfl, rfl⟩
  have z0 : decide ((n : Int) = 0) = false := decide_eq_false (by omega)
  have z0n : decide (n = 0) = false := decide_eq_false h0
  have zneg : decide ((n : Int) < 0) = false := decide_eq_false (by omega)
  (repeat' with_reducible first |apply qA|apply qB|apply qC|apply qD|apply qE|apply qF|(apply qG;decide)|apply qH|apply qI|apply qJ|apply qK|((first|apply qL|apply qM|apply qN|apply qO|((first|apply qP|apply qQ);decide +kernel));(conv=>lhs;simp only[go_sem, ibin, ishift, z0, z0n])<;>rfl)|((first|apply qR|apply qS);(conv=>lhs;simp only[go_sem])<;>rfl;rfl)|((first|apply qT|apply qU);(conv=>lhs;simp only[go_sem])<;>rfl;rfl)|apply qV|apply qW|apply qX|apply qY|apply qZ)
  refine W2_loopu (fun m u g => ∃ (k : Nat) (s : List UInt8), m = k ∧ ((k = n ∧ s = []) ∨ (k = n / 10 ∧ s = [dg (n % 10)]) ∨ (k = 0 ∧ s = dig n)) ∧ u = [(3, .s s), (4, .i .i64 k)] ∧ g = []) n ⟨n, [], rfl, .inl ⟨rfl, rfl⟩, rfl, rfl⟩ rfl rfl ?_
  rintro m u g ⟨k, s, rfl, hc, rfl, rfl⟩
  intro e1 h1 he1 hh1; simp only [egd, supE, hgd, supH, Nat.reduceEqDiff, Nat.reduceAdd, if_true, if_false, reduceIte] at he1 hh1; subst he1; subst hh1
  by_cases hk : m = 0
  · have zk : decide ((m : Int) = 0) = true := decide_eq_true (by omega)
    have zkn : decide (m = 0) = true := decide_eq_true hk
    have hs : s = dig n := by
      rcases hc with ⟨h1, _⟩ | ⟨h1, h2⟩ | ⟨_, h2⟩
      · omega
      · rw [h2, dig, if_neg h0, if_pos (by omega), show n % 10 = n by omega]
      · exact h2
    subst hs
    (repeat' with_reducible first |apply qA|apply qB|apply qC|apply qD|apply qE|apply qF|(apply qG;decide)|apply qH|apply qI|apply qJ|apply qK|((first|apply qL|apply qM|apply qN|apply qO|((first|apply qP|apply qQ);decide +kernel));(conv=>lhs;simp only[go_sem, ibin, ishift, zk, zkn, zneg])<;>rfl)|((first|apply qR|apply qS);(conv=>lhs;simp only[go_sem])<;>rfl;rfl)|((first|apply qT|apply qU);(conv=>lhs;simp only[go_sem])<;>rfl;rfl)|apply qV|apply qW|apply qX|apply qY|apply qZ)
    refine ⟨by first | exact .inr rfl | exact .inl rfl, _, _, (by (conv => lhs; simp only [go_sem, ibin, ishift]) <;> with_reducible rfl), (by (conv => lhs; simp only [go_sem, ibin, ishift]) <;> with_reducible rfl), ?_⟩
    refine ⟨[], by decide, rfl, ?_⟩
    exact ⟨rfl, rfl⟩
  · have zk : decide ((m : Int) = 0) = false := decide_eq_false (by omega)
    have zkn : decide (m = 0) = false := decide_eq_false hk
    have hmod : (m : Int).tmod 10 = ((m % 10 : Nat) : Int) := Int.ofNat_tmod m 10
    have hdiv : (m : Int).tdiv 10 = ((m / 10 : Nat) : Int) := Int.ofNat_tdiv m 10
    have hmn : m ≤ n := by rcases hc with ⟨h1, _⟩ | ⟨h1, _⟩ | ⟨h1, _⟩ <;> omega
    have wd : IntKind.i64.wrap ((m / 10 : Nat) : Int) = ((m / 10 : Nat) : Int) := wi _ (by omega) (by omega)
    have zm : decide (((m % 10 : Nat) : Int) < 0) = false := decide_eq_false (by omega)
    have w48 : IntKind.i64.wrap (48 + ((m % 10 : Nat) : Int)) = 48 + ((m % 10 : Nat) : Int) := wi _ (by omega) (by omega)
    have hdv := dg_val (show m % 10 < 10 by omega)
    have hsl : s.length ≤ 2 := by
      rcases hc with ⟨_, h2⟩ | ⟨_, h2⟩ | ⟨_, h2⟩
      · rw [h2]; decide
      · rw [h2]; exact Nat.le_succ 1
      · omega
    have hroom : 1 + s.length ≤ room := by simp only [room]; omega
    have hby : bytes2 [[PV.i .u8 ((dg (m % 10)).toNat : Int)]] = some [dg (m % 10)] := bytes2_c8 [dg (m % 10)]
    have hc2 : (m / 10 = n ∧ dg (m % 10) :: s = []) ∨ (m / 10 = n / 10 ∧ dg (m % 10) :: s = [dg (n % 10)]) ∨ (m / 10 = 0 ∧ dg (m % 10) :: s = dig n) := by
      rcases hc with ⟨h1, h2⟩ | ⟨h1, h2⟩ | ⟨h1, h2⟩
      · exact .inr (.inl ⟨by rw [h1], by rw [h1, h2]⟩)
      · refine .inr (.inr ⟨by omega, ?_⟩)
        rw [dig, if_neg h0, if_neg (by omega), h2, h1, show n / 10 % 10 = n / 10 by omega]
      · omega
    (repeat' with_reducible first |apply qA|apply qB|apply qC|apply qD|apply qE|apply qF|(apply qG;decide)|apply qH|apply qI|apply qJ|apply qK|((first|apply qL|apply qM|apply qN|apply qO|((first|apply qP|apply qQ);decide +kernel));(conv=>lhs;simp only[go_sem, ibin, ishift, zk, zkn, hmod, hdiv, wd, zm, w48, hdv, hroom, hby])<;>rfl)|((first|apply qR|apply qS);(conv=>lhs;simp only[go_sem])<;>rfl;rfl)|((first|apply qT|apply qU);(conv=>lhs;simp only[go_sem])<;>rfl;rfl)|apply qV|apply qW|apply qX|apply qY|apply qZ)
    refine ⟨[], by decide, rfl, ?_⟩
    exact ⟨m / 10, _, _, by omega, ⟨m / 10, dg (m % 10) :: s, rfl, hc2, rfl, rfl⟩, rfl, (by first | rfl | ((conv => lhs; simp only [go_sem, ibin, ishift]) <;> rfl))⟩
def nd (i : Nat) : Nd := ⟨110 :: dig i, 1, ((i % 8 : Nat) : Int)⟩
def ed (n i : Nat) : Ed := ⟨((i % n : Nat) : Int), (((i + 1 + i / n) % n : Nat) : Int)⟩
def lay (n m : Nat) : Lay := ⟨(List.range n).map nd, (List.range m).map (ed n)⟩
theorem names_ok : ∀ i < 50, nameOk (110 :: dig i) = true := by decide +kernel
theorem names_ne : ∀ i < 50, ∀ j < i, dig j ≠ dig i := by decide +kernel
theorem ends_ok : ∀ n < 41, 20 < n → ∀ i < 120, i % n ≠ (i + 1 + i / n) % n ∧ ∀ j < i, ¬(j % n = i % n ∧ (j + 1 + j / n) % n = (i + 1 + i / n) % n) := by decide +kernel
theorem range_get {n i : Nat} {α : Type} {f : Nat → α} {x : α} (h : ((List.range n).map f)[i]? = some x) : i < n ∧ x = f i := by
  rw [List.getElem?_map] at h
  obtain ⟨y, hy, rfl⟩ := Option.map_eq_some_iff.1 h
  have := List.getElem?_eq_some_iff.1 hy
  obtain ⟨h1, h2⟩ := this
  simp only [List.getElem_range] at h2
  rw [List.length_range] at h1
  exact ⟨h1, by rw [← h2]⟩
theorem range_take {n i : Nat} {α : Type} {f : Nat → α} {x : α} (h : x ∈ ((List.range n).map f).take i) : ∃ j, j < i ∧ j < n ∧ x = f j := by
  rw [← List.map_take, List.take_range] at h
  obtain ⟨j, hj, rfl⟩ := List.mem_map.1 h
  have := List.mem_range.1 hj
  exact ⟨j, by omega, by omega, rfl⟩
theorem lay_good {n m : Nat} (hn0 : 20 < n) (hn : n ≤ 40) (hm : m ≤ 120) : (lay n m).good = true := by
  unfold Lay.good
  simp only [Bool.and_eq_true, decide_eq_true_eq]
  have hl : (lay n m).ns.length = n := by simp [lay]
  have he : (lay n m).es.length = m := by simp [lay]
  refine ⟨⟨⟨⟨by omega, by omega⟩, by omega⟩, allOk_iff.2 fun i x hi => ?_⟩, allOk_iff.2 fun i x hi => ?_⟩
  · obtain ⟨h1, rfl⟩ := range_get hi
    have hno : ∀ y ∈ (lay n m).ns.take i, y.name ≠ (nd i).name := fun y hy => by
      obtain ⟨j, h2, _, rfl⟩ := range_take hy
      intro hh
      have := names_ne i (by omega) j h2
      exact this (by simpa [nd] using hh)
    rw [okN_new hno]
    have h3 : nameOk (nd i).name = true := names_ok i (by omega)
    rw [h3, decide_eq_false (show ¬((nd i).kind < 1) by simp [nd]), decide_eq_false (show ¬((nd i).kind > 4) by simp [nd]), decide_eq_false (show ¬((nd i).zone < 0) by simp only [nd]; omega), decide_eq_false (show ¬((nd i).zone ≥ 8) by simp only [nd]; omega)]
    rfl
  · obtain ⟨h1, rfl⟩ := range_get hi
    have hk : ∀ k : Nat, k < n → kindAt (lay n m).ns (k : Int) = 1 := fun k hk => by
      have : (lay n m).ns[(k : Int).toNat]? = some (nd k) := by simp [lay, hk]
      unfold kindAt
      rw [this]; rfl
    have h2 := ends_ok n (by omega) hn0 i (by omega)
    have hm1 : i % n < n := Nat.mod_lt _ (by omega)
    have hm2 : (i + 1 + i / n) % n < n := Nat.mod_lt _ (by omega)
    refine okE_iff.2 ⟨⟨by simp only [ed]; omega, by simp only [ed]; omega⟩, ⟨by simp only [ed]; omega, by simp only [ed]; omega⟩, by simp only [ed]; omega, .inl (hk _ hm1), fun f hf => ?_⟩
    obtain ⟨j, h3, _, rfl⟩ := range_take hf
    intro hh
    have h4 := h2.2 j h3
    simp only [ed, Ed.mk.injEq] at hh
    exact h4 ⟨by omega, by omega⟩
theorem lay_bad {n m : Nat} (h : ¬(n ≤ 40 ∧ m ≤ 120)) : (lay n m).good = false := by
  have hl : ((List.range n).map nd).length = n := by simp
  have he : ((List.range m).map (ed n)).length = m := by simp
  exact good_size (by omega)
end Go.Proofs.YtankmcjfglbbiaaDoor.Ab
