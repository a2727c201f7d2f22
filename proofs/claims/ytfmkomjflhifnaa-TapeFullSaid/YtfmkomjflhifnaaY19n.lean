/- Chapter 19: the document's tape. -/
import Derived.Test.YtfmkomjflhifnaaY19m
namespace Go.Proofs.Ytfmkomjflhifnaa.Ab
open Go
set_option linter.unusedVariables false
set_option linter.unusedSimpArgs false
variable {T : AT}
structure Rt where
  now : List UInt8
  oth : List UInt8
  bud : Int
  dead : Bool
def Rt.v (r : Rt) : SV := .agg [.s r.now, .s r.oth, .i .i64 r.bud, .b r.dead]
structure TabR19 (T : AT) : Prop extends TabT T where
  rnew : T i_stillageref19_New = some (.fn c_stillageref19_New)
  rsome : T i_stillageref19_some = some (.fn c_stillageref19_some)
  rcode : T i_stillageref19_code = some (.fn c_stillageref19_code)
  rwritten : T i_stillageref19_written = some (.fn c_stillageref19_written)
  rgood : T i_stillageref19_Good = some (.fn c_stillageref19_Good)
  rarm : T i_stillageref19_Arm = some (.fn c_stillageref19_Arm)
  rappend : T i_stillageref19_Append = some (.fn c_stillageref19_Append)
  rcompact : T i_stillageref19_Compact = some (.fn c_stillageref19_Compact)
  rrepair : T i_stillageref19_Repair = some (.fn c_stillageref19_Repair)
  rcrash : T i_stillageref19_Crash = some (.fn c_stillageref19_Crash)
  tells : T i_stillagelaw19_Tells = some (.fn c_stillagelaw19_Tells)
def Rt.new : Rt := ⟨[], [], -1, false⟩
theorem rnew_spec (c : TabR19 T) : Ret2 T 0 i_stillageref19_New [] [] (fun v h' => v = Rt.new.v ∧ h' = []) := by
  refine Ret2_fnv c.rnew rfl rfl ?_
  (repeat' with_reducible first |apply qA|apply qB|apply qC|apply qD|apply qE|apply qF|(apply qG;decide)|apply qH|apply qI|apply qJ|apply qK|((first|apply qL|apply qM|apply qN|apply qO|((first|apply qP|apply qQ);decide +kernel));(conv=>lhs;simp only[go_sem, ibin, ishift])<;>rfl)|((first|apply qR|apply qS);(conv=>lhs;simp only[go_sem])<;>rfl;rfl)|((first|apply qT|apply qU);(conv=>lhs;simp only[go_sem])<;>rfl;rfl)|apply qV|apply qW|apply qX|apply qY|apply qZ)
  refine ⟨by first | exact .inr rfl | exact .inl rfl, _, _, (by (conv => lhs; simp only [go_sem, ibin, ishift]) <;> with_reducible rfl), (by (conv => lhs; simp only [go_sem, ibin, ishift]) <;> with_reducible rfl), ?_⟩
  refine ⟨[], by decide, rfl, ?_⟩
  exact ⟨rfl, rfl⟩
def Rt.some (r : Rt) (n : Nat) : Rt × Nat :=
  if r.bud < 0 ∨ (n : Int) ≤ r.bud then (⟨r.now, r.oth, if 0 ≤ r.bud then r.bud - n else r.bud, r.dead⟩, n) else (⟨r.now, r.oth, 0, true⟩, r.bud.toNat)
theorem rsome_spec (c : TabR19 T) (r : Rt) (n : Nat) (hn : n ≤ 1000000000) (hb : -9223372036854775808 ≤ r.bud ∧ r.bud ≤ 9223372036854775807) : Ret2 T 0 i_stillageref19_some [r.v, .i .i64 n] [] (fun v h' => v = .tup [(r.some n).1.v, .i .i64 (r.some n).2] ∧ h' = []) := by
  refine Ret2_fnv c.rsome rfl rfl ?_
  obtain ⟨now, oth, bud, dead⟩ := r
  unfold Rt.v Rt.some
  simp only at hb ⊢
  by_cases h0 : bud < 0
  · have z0 : decide (bud < 0) = true := decide_eq_true h0
    have z1 : decide (bud ≥ 0) = false := decide_eq_false (by omega)
    rw [if_pos (.inl h0), if_neg (show ¬(0 ≤ bud) by omega)]
    (repeat' with_reducible first |apply qA|apply qB|apply qC|apply qD|apply qE|apply qF|(apply qG;decide)|apply qH|apply qI|apply qJ|apply qK|((first|apply qL|apply qM|apply qN|apply qO|((first|apply qP|apply qQ);decide +kernel));(conv=>lhs;simp only[go_sem, ibin, ishift, z0, z1])<;>rfl)|((first|apply qR|apply qS);(conv=>lhs;simp only[go_sem])<;>rfl;rfl)|((first|apply qT|apply qU);(conv=>lhs;simp only[go_sem])<;>rfl;rfl)|apply qV|apply qW|apply qX|apply qY|apply qZ)
    refine ⟨by first | exact .inr rfl | exact .inl rfl, _, _, (by (conv => lhs; simp only [go_sem, ibin, ishift]) <;> with_reducible rfl), (by (conv => lhs; simp only [go_sem, ibin, ishift]) <;> with_reducible rfl), ?_⟩
    refine ⟨[], by decide, rfl, ?_⟩
    exact ⟨rfl, rfl⟩
  have z0 : decide (bud < 0) = false := decide_eq_false h0
  have z1 : decide (bud ≥ 0) = true := decide_eq_true (by omega)
  by_cases h1 : (n : Int) ≤ bud
  · have z2 : decide (bud ≥ (n : Int)) = true := decide_eq_true h1
    have w1 : IntKind.i64.wrap (bud - (n : Int)) = bud - (n : Int) := wi _ (by omega) (by omega)
    rw [if_pos (.inr h1), if_pos (show 0 ≤ bud by omega)]
    (repeat' with_reducible first |apply qA|apply qB|apply qC|apply qD|apply qE|apply qF|(apply qG;decide)|apply qH|apply qI|apply qJ|apply qK|((first|apply qL|apply qM|apply qN|apply qO|((first|apply qP|apply qQ);decide +kernel));(conv=>lhs;simp only[go_sem, ibin, ishift, z0, z1, z2, w1])<;>rfl)|((first|apply qR|apply qS);(conv=>lhs;simp only[go_sem])<;>rfl;rfl)|((first|apply qT|apply qU);(conv=>lhs;simp only[go_sem])<;>rfl;rfl)|apply qV|apply qW|apply qX|apply qY|apply qZ)
    refine ⟨by first | exact .inr rfl | exact .inl rfl, _, _, (by (conv => lhs; simp only [go_sem, ibin, ishift]) <;> with_reducible rfl), (by (conv => lhs; simp only [go_sem, ibin, ishift]) <;> with_reducible rfl), ?_⟩
    refine ⟨[], by decide, rfl, ?_⟩
    exact ⟨rfl, rfl⟩
  · have z2 : decide (bud ≥ (n : Int)) = false := decide_eq_false h1
    rw [if_neg (fun h => h.elim h0 h1)]
    have e : ((bud.toNat : Nat) : Int) = bud := by omega
    simp only [e]
    (repeat' with_reducible first |apply qA|apply qB|apply qC|apply qD|apply qE|apply qF|(apply qG;decide)|apply qH|apply qI|apply qJ|apply qK|((first|apply qL|apply qM|apply qN|apply qO|((first|apply qP|apply qQ);decide +kernel));(conv=>lhs;simp only[go_sem, ibin, ishift, z0, z1, z2])<;>rfl)|((first|apply qR|apply qS);(conv=>lhs;simp only[go_sem])<;>rfl;rfl)|((first|apply qT|apply qU);(conv=>lhs;simp only[go_sem])<;>rfl;rfl)|apply qV|apply qW|apply qX|apply qY|apply qZ)
    refine ⟨by first | exact .inr rfl | exact .inl rfl, _, _, (by (conv => lhs; simp only [go_sem, ibin, ishift]) <;> with_reducible rfl), (by (conv => lhs; simp only [go_sem, ibin, ishift]) <;> with_reducible rfl), ?_⟩
    refine ⟨[], by decide, rfl, ?_⟩
    exact ⟨rfl, rfl⟩
def Rt.code (r : Rt) : Int := if r.dead = true then 190 else 0
theorem rcode_spec (c : TabR19 T) (r : Rt) : Ret2 T 0 i_stillageref19_code [r.v] [] (fun v h' => v = .i .i64 r.code ∧ h' = []) := by
  refine Ret2_fnv c.rcode rfl rfl ?_
  obtain ⟨now, oth, bud, dead⟩ := r
  unfold Rt.v Rt.code
  cases dead with
  | true =>
    (repeat' with_reducible first |apply qA|apply qB|apply qC|apply qD|apply qE|apply qF|(apply qG;decide)|apply qH|apply qI|apply qJ|apply qK|((first|apply qL|apply qM|apply qN|apply qO|((first|apply qP|apply qQ);decide +kernel));(conv=>lhs;simp only[go_sem, ibin, ishift])<;>rfl)|((first|apply qR|apply qS);(conv=>lhs;simp only[go_sem])<;>rfl;rfl)|((first|apply qT|apply qU);(conv=>lhs;simp only[go_sem])<;>rfl;rfl)|apply qV|apply qW|apply qX|apply qY|apply qZ)
    refine ⟨by first | exact .inr rfl | exact .inl rfl, _, _, (by (conv => lhs; simp only [go_sem, ibin, ishift]) <;> with_reducible rfl), (by (conv => lhs; simp only [go_sem, ibin, ishift]) <;> with_reducible rfl), ?_⟩
    refine ⟨[], by decide, rfl, ?_⟩
    exact ⟨rfl, rfl⟩
  | false =>
    (repeat' with_reducible first |apply qA|apply qB|apply qC|apply qD|apply qE|apply qF|(apply qG;decide)|apply qH|apply qI|apply qJ|apply qK|((first|apply qL|apply qM|apply qN|apply qO|((first|apply qP|apply qQ);decide +kernel));(conv=>lhs;simp only[go_sem, ibin, ishift])<;>rfl)|((first|apply qR|apply qS);(conv=>lhs;simp only[go_sem])<;>rfl;rfl)|((first|apply qT|apply qU);(conv=>lhs;simp only[go_sem])<;>rfl;rfl)|apply qV|apply qW|apply qX|apply qY|apply qZ)
    refine ⟨by first | exact .inr rfl | exact .inl rfl, _, _, (by (conv => lhs; simp only [go_sem, ibin, ishift]) <;> with_reducible rfl), (by (conv => lhs; simp only [go_sem, ibin, ishift]) <;> with_reducible rfl), ?_⟩
    refine ⟨[], by decide, rfl, ?_⟩
    exact ⟨rfl, rfl⟩
def Rt.arm (r : Rt) (n : Int) : Rt × Int :=
  if r.dead = true then (r, 190) else if n < 0 ∨ n > 1099511627776 then (r, 1) else (⟨r.now, r.oth, n, r.dead⟩, 0)
theorem rarm_spec (c : TabR19 T) (r : Rt) (n : Int) : Ret2 T 0 i_stillageref19_Arm [r.v, .i .i64 n] [] (fun v h' => v = .tup [(r.arm n).1.v, .i .i64 (r.arm n).2] ∧ h' = []) := by
  refine Ret2_fnv c.rarm rfl rfl ?_
  obtain ⟨now, oth, bud, dead⟩ := r
  unfold Rt.v Rt.arm
  simp only
  cases dead with
  | true =>
    (repeat' with_reducible first |apply qA|apply qB|apply qC|apply qD|apply qE|apply qF|(apply qG;decide)|apply qH|apply qI|apply qJ|apply qK|((first|apply qL|apply qM|apply qN|apply qO|((first|apply qP|apply qQ);decide +kernel));(conv=>lhs;simp only[go_sem, ibin, ishift])<;>rfl)|((first|apply qR|apply qS);(conv=>lhs;simp only[go_sem])<;>rfl;rfl)|((first|apply qT|apply qU);(conv=>lhs;simp only[go_sem])<;>rfl;rfl)|apply qV|apply qW|apply qX|apply qY|apply qZ)
    refine ⟨by first | exact .inr rfl | exact .inl rfl, _, _, (by (conv => lhs; simp only [go_sem, ibin, ishift]) <;> with_reducible rfl), (by (conv => lhs; simp only [go_sem, ibin, ishift]) <;> with_reducible rfl), ?_⟩
    refine ⟨[], by decide, rfl, ?_⟩
    exact ⟨rfl, rfl⟩
  | false =>
    rw [if_neg (by decide)]
    (repeat' with_reducible first |apply qA|apply qB|apply qC|apply qD|apply qE|apply qF|(apply qG;decide)|apply qH|apply qI|apply qJ|apply qK|((first|apply qL|apply qM|apply qN|apply qO|((first|apply qP|apply qQ);decide +kernel));(conv=>lhs;simp only[go_sem, ibin, ishift])<;>rfl)|((first|apply qR|apply qS);(conv=>lhs;simp only[go_sem])<;>rfl;rfl)|((first|apply qT|apply qU);(conv=>lhs;simp only[go_sem])<;>rfl;rfl)|apply qV|apply qW|apply qX|apply qY|apply qZ)
    (((first | with_reducible apply W2_sc | with_reducible apply W2_cond); ((conv => lhs; simp only [go_sem]) <;> with_reducible rfl)) <;> intro hx <;> (try rw [hx]) <;> simp only [Bool.or_eq_true, Bool.and_eq_true, decide_eq_true_eq, Bool.or_eq_false_iff, Bool.and_eq_false_iff, decide_eq_false_iff_not, Bool.not_eq_true', Bool.not_eq_false', bne_iff_ne, beq_iff_eq, not_or, not_and, Decidable.not_not, ne_eq, gt_iff_lt, ge_iff_le, Int.not_lt, Int.not_le] at hx)
    · rw [if_pos (by omega)]
      (repeat' with_reducible first |apply qA|apply qB|apply qC|apply qD|apply qE|apply qF|(apply qG;decide)|apply qH|apply qI|apply qJ|apply qK|((first|apply qL|apply qM|apply qN|apply qO|((first|apply qP|apply qQ);decide +kernel));(conv=>lhs;simp only[go_sem, ibin, ishift])<;>rfl)|((first|apply qR|apply qS);(conv=>lhs;simp only[go_sem])<;>rfl;rfl)|((first|apply qT|apply qU);(conv=>lhs;simp only[go_sem])<;>rfl;rfl)|apply qV|apply qW|apply qX|apply qY|apply qZ)
      refine ⟨by first | exact .inr rfl | exact .inl rfl, _, _, (by (conv => lhs; simp only [go_sem, ibin, ishift]) <;> with_reducible rfl), (by (conv => lhs; simp only [go_sem, ibin, ishift]) <;> with_reducible rfl), ?_⟩
      refine ⟨[], by decide, rfl, ?_⟩
      exact ⟨rfl, rfl⟩
    · rw [if_neg (by omega)]
      (repeat' with_reducible first |apply qA|apply qB|apply qC|apply qD|apply qE|apply qF|(apply qG;decide)|apply qH|apply qI|apply qJ|apply qK|((first|apply qL|apply qM|apply qN|apply qO|((first|apply qP|apply qQ);decide +kernel));(conv=>lhs;simp only[go_sem, ibin, ishift])<;>rfl)|((first|apply qR|apply qS);(conv=>lhs;simp only[go_sem])<;>rfl;rfl)|((first|apply qT|apply qU);(conv=>lhs;simp only[go_sem])<;>rfl;rfl)|apply qV|apply qW|apply qX|apply qY|apply qZ)
      refine ⟨by first | exact .inr rfl | exact .inl rfl, _, _, (by (conv => lhs; simp only [go_sem, ibin, ishift]) <;> with_reducible rfl), (by (conv => lhs; simp only [go_sem, ibin, ishift]) <;> with_reducible rfl), ?_⟩
      refine ⟨[], by decide, rfl, ?_⟩
      exact ⟨rfl, rfl⟩
def Rt.crash (r : Rt) : Rt := ⟨r.now, r.oth, -1, false⟩
theorem rcrash_spec (c : TabR19 T) (r : Rt) : Ret2 T 0 i_stillageref19_Crash [r.v] [] (fun v h' => v = r.crash.v ∧ h' = []) := by
  refine Ret2_fnv c.rcrash rfl rfl ?_
  unfold Rt.v Rt.crash
  (repeat' with_reducible first |apply qA|apply qB|apply qC|apply qD|apply qE|apply qF|(apply qG;decide)|apply qH|apply qI|apply qJ|apply qK|((first|apply qL|apply qM|apply qN|apply qO|((first|apply qP|apply qQ);decide +kernel));(conv=>lhs;simp only[go_sem, ibin, ishift])<;>rfl)|((first|apply qR|apply qS);(conv=>lhs;simp only[go_sem])<;>rfl;rfl)|((first|apply qT|apply qU);(conv=>lhs;simp only[go_sem])<;>rfl;rfl)|apply qV|apply qW|apply qX|apply qY|apply qZ)
  refine ⟨by first | exact .inr rfl | exact .inl rfl, _, _, (by (conv => lhs; simp only [go_sem, ibin, ishift]) <;> with_reducible rfl), (by (conv => lhs; simp only [go_sem, ibin, ishift]) <;> with_reducible rfl), ?_⟩
  refine ⟨[], by decide, rfl, ?_⟩
  exact ⟨rfl, rfl⟩
theorem rwritten_spec (c : TabR19 T) (l : List Nt) (hl : l.length ≤ 40000) : Ret2 T 0 i_stillageref19_written [.fz 4 (l.map cN)] [] (fun v h' => v = .tup [.s (if ∀ x ∈ l, goodN x then encsB l else []), .b (decide (∀ x ∈ l, goodN x))] ∧ h' = []) := by
  refine Ret2_fnv c.rwritten rfl rfl ?_
  (repeat' with_reducible first |apply qA|apply qB|apply qC|apply qD|apply qE|apply qF|(apply qG;decide)|apply qH|apply qI|apply qJ|apply qK|((first|apply qL|apply qM|apply qN|apply qO|((first|apply qP|apply qQ);decide +kernel));(conv=>lhs;simp only[go_sem, ibin, ishift])<;>rfl)|((first|apply qR|apply qS);(conv=>lhs;simp only[go_sem])<;>rfl;rfl)|((first|apply qT|apply qU);(conv=>lhs;simp only[go_sem])<;>rfl;rfl)|apply qV|apply qW|apply qX|apply qY|apply qZ)
  refine W2_loopu (fun m u g => ∃ j, j + m = l.length ∧ (∀ x ∈ l.take j, goodN x) ∧ u = [(4, .s (encsB (l.take j))), (8, .i .i64 j)] ∧ g = []) l.length ⟨0, by omega, by simp, rfl, rfl⟩ rfl rfl ?_
  rintro m u g ⟨j, hj, hgd, rfl, rfl⟩
  intro e1 h1 he1 hh1; simp only [egd, supE, hgd, supH, Nat.reduceEqDiff, Nat.reduceAdd, if_true, if_false, reduceIte] at he1 hh1; subst he1; subst hh1
  by_cases hjt : j < l.length
  · have hjl : j < l.length := by omega
    have hg := List.getElem?_eq_getElem hjl
    have htk : l.take (j + 1) = l.take j ++ [l[j]] := by rw [List.take_add_one, List.getElem?_eq_getElem hjl]; rfl
    have hmem := List.getElem_mem hjl
    generalize l[j] = x at hg htk hmem
    have hsb2 : encsB (l.take (j + 1)) = encsB (l.take j) ++ encB x := by rw [htk, encsB, List.flatMap_append]; simp [encsB]
    have h0 : (0 : Int) ≤ (j : Int) := by omega
    have h1 : (j : Int) < (l.length : Int) := by omega
    have zj : decide (j < l.length) = true := decide_eq_true hjl
    have wj := wS (show j < 9223372036854775807 by omega)
    (repeat' with_reducible first |apply qA|apply qB|apply qC|apply qD|apply qE|apply qF|(apply qG;decide)|apply qH|apply qI|apply qJ|apply qK|((first|apply qL|apply qM|apply qN|apply qO|((first|apply qP|apply qQ);decide +kernel));(conv=>lhs;simp only[go_sem, ibin, ishift, hg, hjl, cN, h0, h1, zj])<;>rfl)|((first|apply qR|apply qS);(conv=>lhs;simp only[go_sem])<;>rfl;rfl)|((first|apply qT|apply qU);(conv=>lhs;simp only[go_sem])<;>rfl;rfl)|apply qV|apply qW|apply qX|apply qY|apply qZ)
    (with_reducible((first|apply pA|apply pB|apply pC|apply pD|apply pE|((first|apply pF|apply pG);decide +kernel));(conv=>lhs;simp only[go_sem, ibin, ishift, hg, hjl, cN, h0, h1])<;>rfl))
    refine CK_pure (refgood_spec c.toTabR x) (by first | rfl | (simp only [go_sem, cN]; done) | (simp only [go_sem, cN] <;> rfl)) ?_
    rintro v h' ⟨rfl, rfl⟩
    by_cases hx : goodN x
    rotate_left
    · have hna : ¬(∀ x ∈ l, goodN x) := fun h => hx (h x (List.mem_of_getElem? hg))
      rw [decide_eq_false hx, if_neg hna, decide_eq_false hna]
      (with_reducible((first|apply WO2_finw|apply WO2_fina);(conv=>lhs;simp only[go_sem, ibin, ishift])<;>rfl))
      (repeat' with_reducible first |apply qA|apply qB|apply qC|apply qD|apply qE|apply qF|(apply qG;decide)|apply qH|apply qI|apply qJ|apply qK|((first|apply qL|apply qM|apply qN|apply qO|((first|apply qP|apply qQ);decide +kernel));(conv=>lhs;simp only[go_sem, ibin, ishift])<;>rfl)|((first|apply qR|apply qS);(conv=>lhs;simp only[go_sem])<;>rfl;rfl)|((first|apply qT|apply qU);(conv=>lhs;simp only[go_sem])<;>rfl;rfl)|apply qV|apply qW|apply qX|apply qY|apply qZ)
      refine ⟨by first | exact .inr rfl | exact .inl rfl, _, _, (by (conv => lhs; simp only [go_sem, ibin, ishift]) <;> with_reducible rfl), (by (conv => lhs; simp only [go_sem, ibin, ishift]) <;> with_reducible rfl), ?_⟩
      refine ⟨[], by decide, rfl, ?_⟩
      exact ⟨rfl, rfl⟩
    rw [decide_eq_true hx]
    (with_reducible((first|apply WO2_finw|apply WO2_fina);(conv=>lhs;simp only[go_sem, ibin, ishift])<;>rfl))
    (repeat' with_reducible first |apply qA|apply qB|apply qC|apply qD|apply qE|apply qF|(apply qG;decide)|apply qH|apply qI|apply qJ|apply qK|((first|apply qL|apply qM|apply qN|apply qO|((first|apply qP|apply qQ);decide +kernel));(conv=>lhs;simp only[go_sem, ibin, ishift])<;>rfl)|((first|apply qR|apply qS);(conv=>lhs;simp only[go_sem])<;>rfl;rfl)|((first|apply qT|apply qU);(conv=>lhs;simp only[go_sem])<;>rfl;rfl)|apply qV|apply qW|apply qX|apply qY|apply qZ)
    (with_reducible((first|apply pA|apply pB|apply pC|apply pD|apply pE|((first|apply pF|apply pG);decide +kernel));(conv=>lhs;simp only[go_sem, ibin, ishift, hg, hjl, cN, h0, h1])<;>rfl))
    refine CK_pure (refbytes_spec c.toTabR x hx) (by first | rfl | (simp only [go_sem, cN]; done) | (simp only [go_sem, cN] <;> rfl)) ?_
    rintro v h' ⟨rfl, rfl⟩
    have hlt : (encsB (l.take j)).length ≤ 19 * j := by
      have := encsB_le hgd
      rw [List.length_take] at this
      omega
    have hlx := (encB_le hx).1
    have hroom : (encsB (l.take j)).length + (encB x).length ≤ room := by simp only [room]; omega
    (with_reducible((first|apply WO2_finw|apply WO2_fina);(conv=>lhs;simp only[go_sem, ibin, ishift, hroom])<;>rfl))
    (repeat' with_reducible first |apply qA|apply qB|apply qC|apply qD|apply qE|apply qF|(apply qG;decide)|apply qH|apply qI|apply qJ|apply qK|((first|apply qL|apply qM|apply qN|apply qO|((first|apply qP|apply qQ);decide +kernel));(conv=>lhs;simp only[go_sem, ibin, ishift, wj])<;>rfl)|((first|apply qR|apply qS);(conv=>lhs;simp only[go_sem])<;>rfl;rfl)|((first|apply qT|apply qU);(conv=>lhs;simp only[go_sem])<;>rfl;rfl)|apply qV|apply qW|apply qX|apply qY|apply qZ)
    refine ⟨[], by decide, rfl, ?_⟩
    exact ⟨l.length - (j + 1), _, _, by omega, ⟨j + 1, by omega, fun y hy => by
      rw [htk] at hy
      rcases List.mem_append.1 hy with hy | hy
      · exact hgd y hy
      · rw [List.mem_singleton.1 hy]; exact hx, rfl, rfl⟩, by rw [hsb2]; rfl, rfl⟩
  have hje : j = l.length := by omega
  subst hje
  rw [List.take_length] at hgd ⊢
  have zj : decide (l.length < l.length) = false := decide_eq_false (by omega)
  rw [if_pos hgd, decide_eq_true hgd]
  (repeat' with_reducible first |apply qA|apply qB|apply qC|apply qD|apply qE|apply qF|(apply qG;decide)|apply qH|apply qI|apply qJ|apply qK|((first|apply qL|apply qM|apply qN|apply qO|((first|apply qP|apply qQ);decide +kernel));(conv=>lhs;simp only[go_sem, ibin, ishift, zj])<;>rfl)|((first|apply qR|apply qS);(conv=>lhs;simp only[go_sem])<;>rfl;rfl)|((first|apply qT|apply qU);(conv=>lhs;simp only[go_sem])<;>rfl;rfl)|apply qV|apply qW|apply qX|apply qY|apply qZ)
  refine ⟨by first | exact .inr rfl | exact .inl rfl, _, _, (by (conv => lhs; simp only [go_sem, ibin, ishift]) <;> with_reducible rfl), (by (conv => lhs; simp only [go_sem, ibin, ishift]) <;> with_reducible rfl), ?_⟩
  refine ⟨[], by decide, rfl, ?_⟩
  exact ⟨rfl, rfl⟩
theorem rgood_spec (c : TabR19 T) (r : Rt) (g : List Nt) (hg : ReadR r.now g) (hl : r.now.length ≤ 1000000) : Ret2 T 0 i_stillageref19_Good [r.v] [] (fun v h' => v = .i .i64 (encsB g).length ∧ h' = []) := by
  refine Ret2_fnv c.rgood rfl rfl ?_
  obtain ⟨now, oth, bud, dead⟩ := r
  unfold Rt.v
  simp only at hg hl ⊢
  have hb : now.length ≤ 9223372036854775807 := by omega
  (repeat' with_reducible first |apply qA|apply qB|apply qC|apply qD|apply qE|apply qF|(apply qG;decide)|apply qH|apply qI|apply qJ|apply qK|((first|apply qL|apply qM|apply qN|apply qO|((first|apply qP|apply qQ);decide +kernel));(conv=>lhs;simp only[go_sem, ibin, ishift])<;>rfl)|((first|apply qR|apply qS);(conv=>lhs;simp only[go_sem])<;>rfl;rfl)|((first|apply qT|apply qU);(conv=>lhs;simp only[go_sem])<;>rfl;rfl)|apply qV|apply qW|apply qX|apply qY|apply qZ)
  (with_reducible((first|apply pA|apply pB|apply pC|apply pD|apply pE|((first|apply pF|apply pG);decide +kernel));(conv=>lhs;simp only[go_sem, ibin, ishift, hb])<;>rfl))
  rw [show now.map (fun c => [PV.i .u8 (c.toNat : Int)]) = now.map c8 from rfl]
  refine CK_frz 1 rfl (by (conv => lhs; simp only [go_sem, ibin, ishift]) <;> with_reducible rfl) (by (conv => lhs; simp only [go_sem, ibin, ishift]) <;> with_reducible rfl) (by (conv => lhs; simp only [go_sem, ibin, ishift]) <;> with_reducible rfl) ?_
  refine CK_pure (refread_spec c.toTabR now hl) (by first | rfl | (simp only [go_sem, c8]; done) | (simp only [go_sem, c8] <;> rfl)) ?_
  rintro v h' ⟨l, hl2, rfl, rfl⟩
  obtain rfl := read_unique hg hl2
  (with_reducible((first|apply WO2_finw|apply WO2_fina);(conv=>lhs;simp only[go_sem, ibin, ishift])<;>rfl))
  (repeat' with_reducible first |apply qA|apply qB|apply qC|apply qD|apply qE|apply qF|(apply qG;decide)|apply qH|apply qI|apply qJ|apply qK|((first|apply qL|apply qM|apply qN|apply qO|((first|apply qP|apply qQ);decide +kernel));(conv=>lhs;simp only[go_sem, ibin, ishift])<;>rfl)|((first|apply qR|apply qS);(conv=>lhs;simp only[go_sem])<;>rfl;rfl)|((first|apply qT|apply qU);(conv=>lhs;simp only[go_sem])<;>rfl;rfl)|apply qV|apply qW|apply qX|apply qY|apply qZ)
  refine ⟨by first | exact .inr rfl | exact .inl rfl, _, _, (by (conv => lhs; simp only [go_sem, ibin, ishift]) <;> with_reducible rfl), (by (conv => lhs; simp only [go_sem, ibin, ishift]) <;> with_reducible rfl), ?_⟩
  refine ⟨[], by decide, rfl, ?_⟩
  exact ⟨rfl, rfl⟩
end Go.Proofs.Ytfmkomjflhifnaa.Ab
