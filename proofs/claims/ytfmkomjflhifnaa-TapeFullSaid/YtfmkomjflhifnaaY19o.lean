/- Chapter 19: the document's tape: append, compact, repair. -/
import Derived.Test.YtfmkomjflhifnaaY19n
namespace Go.Proofs.Ytfmkomjflhifnaa.Ab
open Go
set_option linter.unusedVariables false
set_option linter.unusedSimpArgs false
variable {T : AT}
def Rt.Bd (r : Rt) : Prop := -1 ≤ r.bud ∧ r.bud ≤ 1099511627776
theorem some_bd {r : Rt} (h : r.Bd) (n : Nat) : (r.some n).1.Bd := by
  unfold Rt.Bd Rt.some at *
  split
  · simp only; split <;> omega
  · simp only; omega
theorem some_le (r : Rt) (n : Nat) : (r.some n).2 ≤ n := by
  unfold Rt.some
  split
  · exact Nat.le_refl _
  · simp only; omega
theorem some_now (r : Rt) (n : Nat) : (r.some n).1.now = r.now ∧ (r.some n).1.oth = r.oth := by
  unfold Rt.some
  split <;> exact ⟨rfl, rfl⟩
def Rt.append (r : Rt) (n : Nat) (l : List Nt) : Rt × Int :=
  if r.dead = true then (r, 190) else if ¬(∀ x ∈ l, goodN x) then (r, 180) else if n < r.now.length then (r, 140) else if 65536 < r.now.length + (encsB l).length then (r, 5) else
  (⟨r.now ++ (encsB l).take (r.some (encsB l).length).2, (r.some (encsB l).length).1.oth, (r.some (encsB l).length).1.bud, (r.some (encsB l).length).1.dead⟩, (r.some (encsB l).length).1.code)
theorem rappend_spec (c : TabR19 T) (r : Rt) (hbd : r.Bd) (g : List Nt) (hg : ReadR r.now g) (hl : r.now.length ≤ 100000) (l : List Nt) (hll : l.length ≤ 40000) : Ret2 T 0 i_stillageref19_Append [r.v, .fz 4 (l.map cN)] [] (fun v h' => v = .tup [(r.append (encsB g).length l).1.v, .i .i64 (r.append (encsB g).length l).2] ∧ h' = []) := by
  refine Ret2_fnv c.rappend rfl rfl ?_
  have hgs := rgood_spec c r g hg (by omega)
  have hsm := fun n hn => rsome_spec c r n hn ⟨by have := hbd.1; omega, by have := hbd.2; omega⟩
  have hsl := some_le r
  have hsn := some_now r
  unfold Rt.append
  cases hd : r.dead with
  | true =>
    rw [if_pos rfl]
    unfold Rt.v
    rw [hd]
    (repeat' with_reducible first |apply qA|apply qB|apply qC|apply qD|apply qE|apply qF|(apply qG;decide)|apply qH|apply qI|apply qJ|apply qK|((first|apply qL|apply qM|apply qN|apply qO|((first|apply qP|apply qQ);decide +kernel));(conv=>lhs;simp only[go_sem, ibin, ishift])<;>rfl)|((first|apply qR|apply qS);(conv=>lhs;simp only[go_sem])<;>rfl;rfl)|((first|apply qT|apply qU);(conv=>lhs;simp only[go_sem])<;>rfl;rfl)|apply qV|apply qW|apply qX|apply qY|apply qZ)
    refine ⟨by first | exact .inr rfl | exact .inl rfl, _, _, (by (conv => lhs; simp only [go_sem, ibin, ishift]) <;> with_reducible rfl), (by (conv => lhs; simp only [go_sem, ibin, ishift]) <;> with_reducible rfl), ?_⟩
    refine ⟨[], by decide, rfl, ?_⟩
    exact ⟨rfl, rfl⟩
  | false =>
  rw [if_neg (by decide)]
  have hv : r.v = .agg [.s r.now, .s r.oth, .i .i64 r.bud, .b false] := by rw [Rt.v, hd]
  rw [hv] at hgs hsm ⊢
  (repeat' with_reducible first |apply qA|apply qB|apply qC|apply qD|apply qE|apply qF|(apply qG;decide)|apply qH|apply qI|apply qJ|apply qK|((first|apply qL|apply qM|apply qN|apply qO|((first|apply qP|apply qQ);decide +kernel));(conv=>lhs;simp only[go_sem, ibin, ishift])<;>rfl)|((first|apply qR|apply qS);(conv=>lhs;simp only[go_sem])<;>rfl;rfl)|((first|apply qT|apply qU);(conv=>lhs;simp only[go_sem])<;>rfl;rfl)|apply qV|apply qW|apply qX|apply qY|apply qZ)
  (with_reducible((first|apply pA|apply pB|apply pC|apply pD|apply pE|((first|apply pF|apply pG);decide +kernel));(conv=>lhs;simp only[go_sem, ibin, ishift])<;>rfl))
  refine CK_pure (rwritten_spec c l hll) rfl ?_
  rintro v h' ⟨rfl, rfl⟩
  by_cases hgd : ∀ x ∈ l, goodN x
  rotate_left
  · rw [if_neg hgd, decide_eq_false hgd, if_pos hgd]
    simp only
    rw [hv]
    (with_reducible((first|apply WO2_finw|apply WO2_fina);(conv=>lhs;simp only[go_sem, ibin, ishift])<;>rfl))
    (repeat' with_reducible first |apply qA|apply qB|apply qC|apply qD|apply qE|apply qF|(apply qG;decide)|apply qH|apply qI|apply qJ|apply qK|((first|apply qL|apply qM|apply qN|apply qO|((first|apply qP|apply qQ);decide +kernel));(conv=>lhs;simp only[go_sem, ibin, ishift])<;>rfl)|((first|apply qR|apply qS);(conv=>lhs;simp only[go_sem])<;>rfl;rfl)|((first|apply qT|apply qU);(conv=>lhs;simp only[go_sem])<;>rfl;rfl)|apply qV|apply qW|apply qX|apply qY|apply qZ)
    refine ⟨by first | exact .inr rfl | exact .inl rfl, _, _, (by (conv => lhs; simp only [go_sem, ibin, ishift]) <;> with_reducible rfl), (by (conv => lhs; simp only [go_sem, ibin, ishift]) <;> with_reducible rfl), ?_⟩
    refine ⟨[], by decide, rfl, ?_⟩
    exact ⟨rfl, rfl⟩
  rw [if_pos hgd, decide_eq_true hgd, if_neg (fun h => h hgd)]
  have hel := encsB_le hgd
  generalize encsB l = bs at hel
  (with_reducible((first|apply WO2_finw|apply WO2_fina);(conv=>lhs;simp only[go_sem, ibin, ishift])<;>rfl))
  (repeat' with_reducible first |apply qA|apply qB|apply qC|apply qD|apply qE|apply qF|(apply qG;decide)|apply qH|apply qI|apply qJ|apply qK|((first|apply qL|apply qM|apply qN|apply qO|((first|apply qP|apply qQ);decide +kernel));(conv=>lhs;simp only[go_sem, ibin, ishift])<;>rfl)|((first|apply qR|apply qS);(conv=>lhs;simp only[go_sem])<;>rfl;rfl)|((first|apply qT|apply qU);(conv=>lhs;simp only[go_sem])<;>rfl;rfl)|apply qV|apply qW|apply qX|apply qY|apply qZ)
  (repeat' with_reducible first |apply qA|apply qB|apply qC|apply qD|apply qE|apply qF|(apply qG;decide)|apply qH|apply qI|apply qJ|apply qK|apply qX|((first|apply qR|apply qS);(conv=>lhs;simp only[go_sem])<;>rfl;rfl)|((first|apply qT|apply qU);(conv=>lhs;simp only[go_sem])<;>rfl;rfl)|apply qZ|apply qY|apply qW)
  by_cases h1 : (encsB g).length < r.now.length
  · have z1 : decide ((encsB g).length < r.now.length) = true := decide_eq_true h1
    rw [if_pos h1]
    simp only
    rw [hv]
    (with_reducible first | apply W2_sregH [0] [false, false, false, true, false] | apply W2_regH [0] [false, false, false, true, false])
    · decide
    · decide
    · rfl
    ((conv => lhs; simp only [go_sem, ibin, ishift]) <;> with_reducible rfl)
    refine EH_pure hgs rfl ?_
    rintro v h' ⟨rfl, rfl⟩
    (with_reducible apply WOH_go (by decide); ((conv => lhs; simp only [go_sem, ibin, ishift, z1]) <;> with_reducible rfl))
    refine EH_go ?_
    (repeat' with_reducible first |apply qA|apply qB|apply qC|apply qD|apply qE|apply qF|(apply qG;decide)|apply qH|apply qI|apply qJ|apply qK|((first|apply qL|apply qM|apply qN|apply qO|((first|apply qP|apply qQ);decide +kernel));(conv=>lhs;simp only[go_sem, ibin, ishift])<;>rfl)|((first|apply qR|apply qS);(conv=>lhs;simp only[go_sem])<;>rfl;rfl)|((first|apply qT|apply qU);(conv=>lhs;simp only[go_sem])<;>rfl;rfl)|apply qV|apply qW|apply qX|apply qY|apply qZ)
    refine ⟨by first | exact .inr rfl | exact .inl rfl, _, _, (by (conv => lhs; simp only [go_sem, ibin, ishift]) <;> with_reducible rfl), (by (conv => lhs; simp only [go_sem, ibin, ishift]) <;> with_reducible rfl), ?_⟩
    refine ⟨[], by decide, rfl, ?_⟩
    exact ⟨rfl, rfl⟩
  have z1 : decide ((encsB g).length < r.now.length) = false := decide_eq_false h1
  rw [if_neg h1]
  (with_reducible first | apply W2_sregH [0] [false, false, false, true, false] | apply W2_regH [0] [false, false, false, true, false])
  · decide
  · decide
  · rfl
  ((conv => lhs; simp only [go_sem, ibin, ishift]) <;> with_reducible rfl)
  refine EH_pure hgs rfl ?_
  rintro v h' ⟨rfl, rfl⟩
  (with_reducible apply WOH_go (by decide); ((conv => lhs; simp only [go_sem, ibin, ishift, z1]) <;> with_reducible rfl))
  refine EH_go ?_
  have w1 : IntKind.i64.wrap ((r.now.length : Int) + (bs.length : Int)) = (r.now.length : Int) + (bs.length : Int) := wi _ (by omega) (by omega)
  by_cases h2 : 65536 < r.now.length + bs.length
  · have z2 : decide ((r.now.length : Int) + (bs.length : Int) > 65536) = true := decide_eq_true (by omega)
    rw [if_pos h2]
    simp only
    rw [hv]
    (repeat' with_reducible first |apply qA|apply qB|apply qC|apply qD|apply qE|apply qF|(apply qG;decide)|apply qH|apply qI|apply qJ|apply qK|((first|apply qL|apply qM|apply qN|apply qO|((first|apply qP|apply qQ);decide +kernel));(conv=>lhs;simp only[go_sem, ibin, ishift, w1, z2])<;>rfl)|((first|apply qR|apply qS);(conv=>lhs;simp only[go_sem])<;>rfl;rfl)|((first|apply qT|apply qU);(conv=>lhs;simp only[go_sem])<;>rfl;rfl)|apply qV|apply qW|apply qX|apply qY|apply qZ)
    refine ⟨by first | exact .inr rfl | exact .inl rfl, _, _, (by (conv => lhs; simp only [go_sem, ibin, ishift]) <;> with_reducible rfl), (by (conv => lhs; simp only [go_sem, ibin, ishift]) <;> with_reducible rfl), ?_⟩
    refine ⟨[], by decide, rfl, ?_⟩
    exact ⟨rfl, rfl⟩
  have z2 : decide ((r.now.length : Int) + (bs.length : Int) > 65536) = false := decide_eq_false (by omega)
  rw [if_neg h2]
  (repeat' with_reducible first |apply qA|apply qB|apply qC|apply qD|apply qE|apply qF|(apply qG;decide)|apply qH|apply qI|apply qJ|apply qK|((first|apply qL|apply qM|apply qN|apply qO|((first|apply qP|apply qQ);decide +kernel));(conv=>lhs;simp only[go_sem, ibin, ishift, w1, z2])<;>rfl)|((first|apply qR|apply qS);(conv=>lhs;simp only[go_sem])<;>rfl;rfl)|((first|apply qT|apply qU);(conv=>lhs;simp only[go_sem])<;>rfl;rfl)|apply qV|apply qW|apply qX|apply qY|apply qZ)
  (with_reducible((first|apply pA|apply pB|apply pC|apply pD|apply pE|((first|apply pF|apply pG);decide +kernel));(conv=>lhs;simp only[go_sem, ibin, ishift])<;>rfl))
  refine CK_pure (hsm bs.length (by omega)) rfl ?_
  rintro v h' ⟨rfl, rfl⟩
  have hle := hsl bs.length
  have hnw := hsn bs.length
  generalize r.some bs.length = q at hle hnw
  obtain ⟨⟨qn, qo, qb, qd⟩, k⟩ := q
  simp only at hle hnw ⊢
  obtain ⟨rfl, rfl⟩ := hnw
  have hk0 : (0 : Int) ≤ (k : Int) := by omega
  have hk1 : (k : Int) ≤ (bs.length : Int) := by omega
  have hkt : (bs.take k).length = k := by rw [List.length_take]; omega
  have hroom : r.now.length + k ≤ room := by simp only [room]; omega
  unfold Rt.v
  simp only
  (with_reducible((first|apply WO2_finw|apply WO2_fina);(conv=>lhs;simp only[go_sem, ibin, ishift])<;>rfl))
  (repeat' with_reducible first |apply qA|apply qB|apply qC|apply qD|apply qE|apply qF|(apply qG;decide)|apply qH|apply qI|apply qJ|apply qK|((first|apply qL|apply qM|apply qN|apply qO|((first|apply qP|apply qQ);decide +kernel));(conv=>lhs;simp only[go_sem, ibin, ishift, hk0, hk1, hle, hkt, hroom])<;>rfl)|((first|apply qR|apply qS);(conv=>lhs;simp only[go_sem])<;>rfl;rfl)|((first|apply qT|apply qU);(conv=>lhs;simp only[go_sem])<;>rfl;rfl)|apply qV|apply qW|apply qX|apply qY|apply qZ)
  have hcs := rcode_spec c ⟨r.now ++ bs.take k, r.oth, qb, qd⟩
  unfold Rt.v at hcs
  (repeat' with_reducible first |apply qA|apply qB|apply qC|apply qD|apply qE|apply qF|(apply qG;decide)|apply qH|apply qI|apply qJ|apply qK|apply qX|((first|apply qR|apply qS);(conv=>lhs;simp only[go_sem])<;>rfl;rfl)|((first|apply qT|apply qU);(conv=>lhs;simp only[go_sem])<;>rfl;rfl)|apply qZ|apply qY|apply qW)
  (with_reducible first | apply W2_sregH [0] [true, false, false, false] | apply W2_regH [0] [true, false, false, false])
  · decide
  · decide
  · rfl
  ((conv => lhs; simp only [go_sem, ibin, ishift]) <;> with_reducible rfl)
  refine EH_pure hcs rfl ?_
  rintro v h' ⟨rfl, rfl⟩
  (with_reducible apply WOH_go (by decide); ((conv => lhs; simp only [go_sem, ibin, ishift]) <;> with_reducible rfl))
  refine EH_go ?_
  (repeat' with_reducible first |apply qA|apply qB|apply qC|apply qD|apply qE|apply qF|(apply qG;decide)|apply qH|apply qI|apply qJ|apply qK|((first|apply qL|apply qM|apply qN|apply qO|((first|apply qP|apply qQ);decide +kernel));(conv=>lhs;simp only[go_sem, ibin, ishift])<;>rfl)|((first|apply qR|apply qS);(conv=>lhs;simp only[go_sem])<;>rfl;rfl)|((first|apply qT|apply qU);(conv=>lhs;simp only[go_sem])<;>rfl;rfl)|apply qV|apply qW|apply qX|apply qY|apply qZ)
  refine ⟨by first | exact .inr rfl | exact .inl rfl, _, _, (by (conv => lhs; simp only [go_sem, ibin, ishift]) <;> with_reducible rfl), (by (conv => lhs; simp only [go_sem, ibin, ishift]) <;> with_reducible rfl), ?_⟩
  refine ⟨[], by decide, rfl, ?_⟩
  exact ⟨rfl, rfl⟩
def Rt.emp (r : Rt) : Rt := if 0 < r.oth.length then (if (r.some 1).1.dead = true then (r.some 1).1 else ⟨r.now, [], (r.some 1).1.bud, (r.some 1).1.dead⟩) else r
def Rt.fill (r : Rt) (bs : List UInt8) : Rt := ⟨r.now, bs.take (r.some bs.length).2, (r.some bs.length).1.bud, (r.some bs.length).1.dead⟩
def Rt.turn (r : Rt) : Rt := if (r.some 1).1.dead = true then (r.some 1).1 else ⟨r.oth, r.now, (r.some 1).1.bud, (r.some 1).1.dead⟩
def Rt.compact (r : Rt) (l : List Nt) : Rt × Int :=
  if r.dead = true then (r, 190) else if ¬(∀ x ∈ l, goodN x) then (r, 180) else if 65536 < (encsB l).length then (r, 5) else
  if r.emp.dead = true then (r.emp, 190) else if (r.emp.fill (encsB l)).dead = true then (r.emp.fill (encsB l), 190) else ((r.emp.fill (encsB l)).turn, (r.emp.fill (encsB l)).turn.code)
theorem emp_bd {r : Rt} (h : r.Bd) : r.emp.Bd := by
  have := some_bd h 1
  unfold Rt.emp
  split
  · split
    · exact this
    · exact this
  · exact h
theorem fill_bd {r : Rt} (h : r.Bd) (bs : List UInt8) : (r.fill bs).Bd := some_bd h bs.length
/-- the rest of a compacting -/
theorem rcompact_spec (c : TabR19 T) (r : Rt) (hbd : r.Bd) (l : List Nt) (hll : l.length ≤ 40000) : Ret2 T 0 i_stillageref19_Compact [r.v, .fz 4 (l.map cN)] [] (fun v h' => v = .tup [(r.compact l).1.v, .i .i64 (r.compact l).2] ∧ h' = []) := by
  refine Ret2_fnv c.rcompact rfl rfl ?_
  have hsm1 := rsome_spec c r 1 (by omega) ⟨by have := hbd.1; omega, by have := hbd.2; omega⟩
  have hbd2 := emp_bd hbd
  have hsn := some_now r 1
  unfold Rt.compact
  cases hd : r.dead with
  | true =>
    rw [if_pos rfl]
    unfold Rt.v
    rw [hd]
    (repeat' with_reducible first |apply qA|apply qB|apply qC|apply qD|apply qE|apply qF|(apply qG;decide)|apply qH|apply qI|apply qJ|apply qK|((first|apply qL|apply qM|apply qN|apply qO|((first|apply qP|apply qQ);decide +kernel));(conv=>lhs;simp only[go_sem, ibin, ishift])<;>rfl)|((first|apply qR|apply qS);(conv=>lhs;simp only[go_sem])<;>rfl;rfl)|((first|apply qT|apply qU);(conv=>lhs;simp only[go_sem])<;>rfl;rfl)|apply qV|apply qW|apply qX|apply qY|apply qZ)
    refine ⟨by first | exact .inr rfl | exact .inl rfl, _, _, (by (conv => lhs; simp only [go_sem, ibin, ishift]) <;> with_reducible rfl), (by (conv => lhs; simp only [go_sem, ibin, ishift]) <;> with_reducible rfl), ?_⟩
    refine ⟨[], by decide, rfl, ?_⟩
    exact ⟨rfl, rfl⟩
  | false =>
  rw [if_neg (by decide)]
  have hv : r.v = .agg [.s r.now, .s r.oth, .i .i64 r.bud, .b false] := by rw [Rt.v, hd]
  rw [hv] at hsm1 ⊢
  (repeat' with_reducible first |apply qA|apply qB|apply qC|apply qD|apply qE|apply qF|(apply qG;decide)|apply qH|apply qI|apply qJ|apply qK|((first|apply qL|apply qM|apply qN|apply qO|((first|apply qP|apply qQ);decide +kernel));(conv=>lhs;simp only[go_sem, ibin, ishift])<;>rfl)|((first|apply qR|apply qS);(conv=>lhs;simp only[go_sem])<;>rfl;rfl)|((first|apply qT|apply qU);(conv=>lhs;simp only[go_sem])<;>rfl;rfl)|apply qV|apply qW|apply qX|apply qY|apply qZ)
  (with_reducible((first|apply pA|apply pB|apply pC|apply pD|apply pE|((first|apply pF|apply pG);decide +kernel));(conv=>lhs;simp only[go_sem, ibin, ishift])<;>rfl))
  refine CK_pure (rwritten_spec c l hll) rfl ?_
  rintro v h' ⟨rfl, rfl⟩
  by_cases hgd : ∀ x ∈ l, goodN x
  rotate_left
  · rw [if_neg hgd, decide_eq_false hgd, if_pos hgd]
    simp only
    rw [hv]
    (with_reducible((first|apply WO2_finw|apply WO2_fina);(conv=>lhs;simp only[go_sem, ibin, ishift])<;>rfl))
    (repeat' with_reducible first |apply qA|apply qB|apply qC|apply qD|apply qE|apply qF|(apply qG;decide)|apply qH|apply qI|apply qJ|apply qK|((first|apply qL|apply qM|apply qN|apply qO|((first|apply qP|apply qQ);decide +kernel));(conv=>lhs;simp only[go_sem, ibin, ishift])<;>rfl)|((first|apply qR|apply qS);(conv=>lhs;simp only[go_sem])<;>rfl;rfl)|((first|apply qT|apply qU);(conv=>lhs;simp only[go_sem])<;>rfl;rfl)|apply qV|apply qW|apply qX|apply qY|apply qZ)
    refine ⟨by first | exact .inr rfl | exact .inl rfl, _, _, (by (conv => lhs; simp only [go_sem, ibin, ishift]) <;> with_reducible rfl), (by (conv => lhs; simp only [go_sem, ibin, ishift]) <;> with_reducible rfl), ?_⟩
    refine ⟨[], by decide, rfl, ?_⟩
    exact ⟨rfl, rfl⟩
  rw [if_pos hgd, decide_eq_true hgd, if_neg (fun h => h hgd)]
  have hel := encsB_le hgd
  generalize encsB l = bs at hel
  by_cases h2 : 65536 < bs.length
  · have z2 : decide ((bs.length : Int) > 65536) = true := decide_eq_true (by omega)
    rw [if_pos h2]
    simp only
    rw [hv]
    (with_reducible((first|apply WO2_finw|apply WO2_fina);(conv=>lhs;simp only[go_sem, ibin, ishift])<;>rfl))
    (repeat' with_reducible first |apply qA|apply qB|apply qC|apply qD|apply qE|apply qF|(apply qG;decide)|apply qH|apply qI|apply qJ|apply qK|((first|apply qL|apply qM|apply qN|apply qO|((first|apply qP|apply qQ);decide +kernel));(conv=>lhs;simp only[go_sem, ibin, ishift, z2])<;>rfl)|((first|apply qR|apply qS);(conv=>lhs;simp only[go_sem])<;>rfl;rfl)|((first|apply qT|apply qU);(conv=>lhs;simp only[go_sem])<;>rfl;rfl)|apply qV|apply qW|apply qX|apply qY|apply qZ)
    refine ⟨by first | exact .inr rfl | exact .inl rfl, _, _, (by (conv => lhs; simp only [go_sem, ibin, ishift]) <;> with_reducible rfl), (by (conv => lhs; simp only [go_sem, ibin, ishift]) <;> with_reducible rfl), ?_⟩
    refine ⟨[], by decide, rfl, ?_⟩
    exact ⟨rfl, rfl⟩
  have z2 : decide ((bs.length : Int) > 65536) = false := decide_eq_false (by omega)
  rw [if_neg h2]
  (with_reducible((first|apply WO2_finw|apply WO2_fina);(conv=>lhs;simp only[go_sem, ibin, ishift])<;>rfl))
  by_cases h3 : 0 < r.oth.length
  · have z3 : decide ((r.oth.length : Int) > 0) = true := decide_eq_true (by omega)
    have z3n : decide (r.oth.length > 0) = true := decide_eq_true h3
    have z3m : decide (0 < r.oth.length) = true := decide_eq_true h3
    have he : r.emp = (if (r.some 1).1.dead = true then (r.some 1).1 else ⟨r.now, [], (r.some 1).1.bud, (r.some 1).1.dead⟩) := by unfold Rt.emp; rw [if_pos h3]
    (repeat' with_reducible first |apply qA|apply qB|apply qC|apply qD|apply qE|apply qF|(apply qG;decide)|apply qH|apply qI|apply qJ|apply qK|((first|apply qL|apply qM|apply qN|apply qO|((first|apply qP|apply qQ);decide +kernel));(conv=>lhs;simp only[go_sem, ibin, ishift, z2, z3, z3n, z3m])<;>rfl)|((first|apply qR|apply qS);(conv=>lhs;simp only[go_sem])<;>rfl;rfl)|((first|apply qT|apply qU);(conv=>lhs;simp only[go_sem])<;>rfl;rfl)|apply qV|apply qW|apply qX|apply qY|apply qZ)
    (with_reducible((first|apply pA|apply pB|apply pC|apply pD|apply pE|((first|apply pF|apply pG);decide +kernel));(conv=>lhs;simp only[go_sem, ibin, ishift])<;>rfl))
    refine CK_pure hsm1 rfl ?_
    rintro v h' ⟨rfl, rfl⟩
    generalize r.some 1 = q at hsn he
    obtain ⟨⟨qn, qo, qb, qd⟩, k⟩ := q
    simp only at hsn he ⊢
    obtain ⟨rfl, rfl⟩ := hsn
    unfold Rt.v
    cases qd with
    | true =>
      simp only [if_true] at he
      rw [he]
      simp only [if_true]
      (with_reducible((first|apply WO2_finw|apply WO2_fina);(conv=>lhs;simp only[go_sem, ibin, ishift])<;>rfl))
      (repeat' with_reducible first |apply qA|apply qB|apply qC|apply qD|apply qE|apply qF|(apply qG;decide)|apply qH|apply qI|apply qJ|apply qK|((first|apply qL|apply qM|apply qN|apply qO|((first|apply qP|apply qQ);decide +kernel));(conv=>lhs;simp only[go_sem, ibin, ishift])<;>rfl)|((first|apply qR|apply qS);(conv=>lhs;simp only[go_sem])<;>rfl;rfl)|((first|apply qT|apply qU);(conv=>lhs;simp only[go_sem])<;>rfl;rfl)|apply qV|apply qW|apply qX|apply qY|apply qZ)
      refine ⟨by first | exact .inr rfl | exact .inl rfl, _, _, (by (conv => lhs; simp only [go_sem, ibin, ishift]) <;> with_reducible rfl), (by (conv => lhs; simp only [go_sem, ibin, ishift]) <;> with_reducible rfl), ?_⟩
      refine ⟨[], by decide, rfl, ?_⟩
      exact ⟨rfl, rfl⟩
    | false =>
      simp only [Bool.false_eq_true, if_false] at he
      rw [he]
      (with_reducible((first|apply WO2_finw|apply WO2_fina);(conv=>lhs;simp only[go_sem, ibin, ishift])<;>rfl))
      rw [if_neg (show ¬(Rt.dead (Rt.mk r.now [] qb false) = true) from fun h => by cases h)]
      have hbd2 : Rt.Bd (Rt.mk r.now [] qb false) := he ▸ hbd2
      have hsm2 := rsome_spec c (Rt.mk r.now [] qb false) bs.length (by omega) ⟨by have := hbd2.1; omega, by have := hbd2.2; omega⟩
      have hle := some_le (Rt.mk r.now [] qb false) bs.length
      have hnw := some_now (Rt.mk r.now [] qb false) bs.length
      have hbd3 := fill_bd hbd2 bs
      unfold Rt.v at hsm2
      (repeat' with_reducible first |apply qA|apply qB|apply qC|apply qD|apply qE|apply qF|(apply qG;decide)|apply qH|apply qI|apply qJ|apply qK|((first|apply qL|apply qM|apply qN|apply qO|((first|apply qP|apply qQ);decide +kernel));(conv=>lhs;simp only[go_sem, ibin, ishift])<;>rfl)|((first|apply qR|apply qS);(conv=>lhs;simp only[go_sem])<;>rfl;rfl)|((first|apply qT|apply qU);(conv=>lhs;simp only[go_sem])<;>rfl;rfl)|apply qV|apply qW|apply qX|apply qY|apply qZ)
      (with_reducible((first|apply pA|apply pB|apply pC|apply pD|apply pE|((first|apply pF|apply pG);decide +kernel));(conv=>lhs;simp only[go_sem, ibin, ishift])<;>rfl))
      refine CK_pure hsm2 rfl ?_
      rintro v h' ⟨rfl, rfl⟩
      have hf : Rt.fill (Rt.mk r.now [] qb false) bs = ⟨Rt.now (Rt.mk r.now [] qb false), bs.take (Rt.some (Rt.mk r.now [] qb false) bs.length).2, (Rt.some (Rt.mk r.now [] qb false) bs.length).1.bud, (Rt.some (Rt.mk r.now [] qb false) bs.length).1.dead⟩ := rfl
      rw [hf] at hbd3 ⊢
      generalize Rt.some (Rt.mk r.now [] qb false) bs.length = q at hle hnw hbd3
      obtain ⟨⟨qn, qo, qb2, qd⟩, k⟩ := q
      simp only at hle hnw hbd3 ⊢
      obtain ⟨hn1, hn2⟩ := hnw
      have hn1 := hn1.symm
      have hn2 := hn2.symm
      subst hn1
      subst hn2
      have hk0 : (0 : Int) ≤ (k : Int) := by omega
      have hk1 : (k : Int) ≤ (bs.length : Int) := by omega
      (with_reducible((first|apply WO2_finw|apply WO2_fina);(conv=>lhs;simp only[go_sem, ibin, ishift])<;>rfl))
      (repeat' with_reducible first |apply qA|apply qB|apply qC|apply qD|apply qE|apply qF|(apply qG;decide)|apply qH|apply qI|apply qJ|apply qK|((first|apply qL|apply qM|apply qN|apply qO|((first|apply qP|apply qQ);decide +kernel));(conv=>lhs;simp only[go_sem, ibin, ishift, hk0, hk1, hle])<;>rfl)|((first|apply qR|apply qS);(conv=>lhs;simp only[go_sem])<;>rfl;rfl)|((first|apply qT|apply qU);(conv=>lhs;simp only[go_sem])<;>rfl;rfl)|apply qV|apply qW|apply qX|apply qY|apply qZ)
      cases qd with
      | true =>
        simp only [if_true]
        (repeat' with_reducible first |apply qA|apply qB|apply qC|apply qD|apply qE|apply qF|(apply qG;decide)|apply qH|apply qI|apply qJ|apply qK|((first|apply qL|apply qM|apply qN|apply qO|((first|apply qP|apply qQ);decide +kernel));(conv=>lhs;simp only[go_sem, ibin, ishift])<;>rfl)|((first|apply qR|apply qS);(conv=>lhs;simp only[go_sem])<;>rfl;rfl)|((first|apply qT|apply qU);(conv=>lhs;simp only[go_sem])<;>rfl;rfl)|apply qV|apply qW|apply qX|apply qY|apply qZ)
        refine ⟨by first | exact .inr rfl | exact .inl rfl, _, _, (by (conv => lhs; simp only [go_sem, ibin, ishift]) <;> with_reducible rfl), (by (conv => lhs; simp only [go_sem, ibin, ishift]) <;> with_reducible rfl), ?_⟩
        refine ⟨[], by decide, rfl, ?_⟩
        exact ⟨rfl, rfl⟩
      | false =>
        simp only [Bool.false_eq_true, if_false]
        have hsm3 := rsome_spec c ⟨r.now, bs.take k, qb2, false⟩ 1 (by omega) ⟨by have := hbd3.1; omega, by have := hbd3.2; omega⟩
        have hnw3 := some_now ⟨r.now, bs.take k, qb2, false⟩ 1
        have ht : Rt.turn ⟨r.now, bs.take k, qb2, false⟩ = (if (Rt.some ⟨r.now, bs.take k, qb2, false⟩ 1).1.dead = true then (Rt.some ⟨r.now, bs.take k, qb2, false⟩ 1).1 else ⟨bs.take k, r.now, (Rt.some ⟨r.now, bs.take k, qb2, false⟩ 1).1.bud, (Rt.some ⟨r.now, bs.take k, qb2, false⟩ 1).1.dead⟩) := rfl
        rw [ht]
        unfold Rt.v at hsm3
        (repeat' with_reducible first |apply qA|apply qB|apply qC|apply qD|apply qE|apply qF|(apply qG;decide)|apply qH|apply qI|apply qJ|apply qK|((first|apply qL|apply qM|apply qN|apply qO|((first|apply qP|apply qQ);decide +kernel));(conv=>lhs;simp only[go_sem, ibin, ishift])<;>rfl)|((first|apply qR|apply qS);(conv=>lhs;simp only[go_sem])<;>rfl;rfl)|((first|apply qT|apply qU);(conv=>lhs;simp only[go_sem])<;>rfl;rfl)|apply qV|apply qW|apply qX|apply qY|apply qZ)
        (with_reducible((first|apply pA|apply pB|apply pC|apply pD|apply pE|((first|apply pF|apply pG);decide +kernel));(conv=>lhs;simp only[go_sem, ibin, ishift])<;>rfl))
        refine CK_pure hsm3 rfl ?_
        rintro v h' ⟨rfl, rfl⟩
        generalize Rt.some ⟨r.now, bs.take k, qb2, false⟩ 1 = q at hnw3
        obtain ⟨⟨qn, qo, qb3, qd⟩, k3⟩ := q
        simp only at hnw3 ⊢
        obtain ⟨hn1, hn2⟩ := hnw3
        have hn1 := hn1.symm
        have hn2 := hn2.symm
        subst hn1
        subst hn2
        (with_reducible((first|apply WO2_finw|apply WO2_fina);(conv=>lhs;simp only[go_sem, ibin, ishift])<;>rfl))
        cases qd with
        | true =>
          simp only [if_true]
          (repeat' with_reducible first |apply qA|apply qB|apply qC|apply qD|apply qE|apply qF|(apply qG;decide)|apply qH|apply qI|apply qJ|apply qK|((first|apply qL|apply qM|apply qN|apply qO|((first|apply qP|apply qQ);decide +kernel));(conv=>lhs;simp only[go_sem, ibin, ishift])<;>rfl)|((first|apply qR|apply qS);(conv=>lhs;simp only[go_sem])<;>rfl;rfl)|((first|apply qT|apply qU);(conv=>lhs;simp only[go_sem])<;>rfl;rfl)|apply qV|apply qW|apply qX|apply qY|apply qZ)
          have hcs := rcode_spec c (Rt.mk r.now (bs.take k) qb3 true)
          unfold Rt.v at hcs
          (repeat' with_reducible first |apply qA|apply qB|apply qC|apply qD|apply qE|apply qF|(apply qG;decide)|apply qH|apply qI|apply qJ|apply qK|apply qX|((first|apply qR|apply qS);(conv=>lhs;simp only[go_sem])<;>rfl;rfl)|((first|apply qT|apply qU);(conv=>lhs;simp only[go_sem])<;>rfl;rfl)|apply qZ|apply qY|apply qW)
          (with_reducible first | apply W2_sregH [0] [true, false, false, false] | apply W2_regH [0] [true, false, false, false])
          · decide
          · decide
          · rfl
          ((conv => lhs; simp only [go_sem, ibin, ishift]) <;> with_reducible rfl)
          refine EH_pure hcs rfl ?_
          rintro v h' ⟨rfl, rfl⟩
          (with_reducible apply WOH_go (by decide); ((conv => lhs; simp only [go_sem, ibin, ishift]) <;> with_reducible rfl))
          refine EH_go ?_
          (repeat' with_reducible first |apply qA|apply qB|apply qC|apply qD|apply qE|apply qF|(apply qG;decide)|apply qH|apply qI|apply qJ|apply qK|((first|apply qL|apply qM|apply qN|apply qO|((first|apply qP|apply qQ);decide +kernel));(conv=>lhs;simp only[go_sem, ibin, ishift])<;>rfl)|((first|apply qR|apply qS);(conv=>lhs;simp only[go_sem])<;>rfl;rfl)|((first|apply qT|apply qU);(conv=>lhs;simp only[go_sem])<;>rfl;rfl)|apply qV|apply qW|apply qX|apply qY|apply qZ)
          refine ⟨by first | exact .inr rfl | exact .inl rfl, _, _, (by (conv => lhs; simp only [go_sem, ibin, ishift]) <;> with_reducible rfl), (by (conv => lhs; simp only [go_sem, ibin, ishift]) <;> with_reducible rfl), ?_⟩
          refine ⟨[], by decide, rfl, ?_⟩
          exact ⟨rfl, rfl⟩
        | false =>
          simp only [Bool.false_eq_true, if_false]
          (repeat' with_reducible first |apply qA|apply qB|apply qC|apply qD|apply qE|apply qF|(apply qG;decide)|apply qH|apply qI|apply qJ|apply qK|((first|apply qL|apply qM|apply qN|apply qO|((first|apply qP|apply qQ);decide +kernel));(conv=>lhs;simp only[go_sem, ibin, ishift])<;>rfl)|((first|apply qR|apply qS);(conv=>lhs;simp only[go_sem])<;>rfl;rfl)|((first|apply qT|apply qU);(conv=>lhs;simp only[go_sem])<;>rfl;rfl)|apply qV|apply qW|apply qX|apply qY|apply qZ)
          have hcs := rcode_spec c (Rt.mk (bs.take k) r.now qb3 false)
          unfold Rt.v at hcs
          (repeat' with_reducible first |apply qA|apply qB|apply qC|apply qD|apply qE|apply qF|(apply qG;decide)|apply qH|apply qI|apply qJ|apply qK|apply qX|((first|apply qR|apply qS);(conv=>lhs;simp only[go_sem])<;>rfl;rfl)|((first|apply qT|apply qU);(conv=>lhs;simp only[go_sem])<;>rfl;rfl)|apply qZ|apply qY|apply qW)
          (with_reducible first | apply W2_sregH [0] [true, false, false, false] | apply W2_regH [0] [true, false, false, false])
          · decide
          · decide
          · rfl
          ((conv => lhs; simp only [go_sem, ibin, ishift]) <;> with_reducible rfl)
          refine EH_pure hcs rfl ?_
          rintro v h' ⟨rfl, rfl⟩
          (with_reducible apply WOH_go (by decide); ((conv => lhs; simp only [go_sem, ibin, ishift]) <;> with_reducible rfl))
          refine EH_go ?_
          (repeat' with_reducible first |apply qA|apply qB|apply qC|apply qD|apply qE|apply qF|(apply qG;decide)|apply qH|apply qI|apply qJ|apply qK|((first|apply qL|apply qM|apply qN|apply qO|((first|apply qP|apply qQ);decide +kernel));(conv=>lhs;simp only[go_sem, ibin, ishift])<;>rfl)|((first|apply qR|apply qS);(conv=>lhs;simp only[go_sem])<;>rfl;rfl)|((first|apply qT|apply qU);(conv=>lhs;simp only[go_sem])<;>rfl;rfl)|apply qV|apply qW|apply qX|apply qY|apply qZ)
          refine ⟨by first | exact .inr rfl | exact .inl rfl, _, _, (by (conv => lhs; simp only [go_sem, ibin, ishift]) <;> with_reducible rfl), (by (conv => lhs; simp only [go_sem, ibin, ishift]) <;> with_reducible rfl), ?_⟩
          refine ⟨[], by decide, rfl, ?_⟩
          exact ⟨rfl, rfl⟩
  · have z3 : decide ((r.oth.length : Int) > 0) = false := decide_eq_false (by omega)
    have z3n : decide (r.oth.length > 0) = false := decide_eq_false h3
    have z3m : decide (0 < r.oth.length) = false := decide_eq_false h3
    obtain ⟨rnow, roth, rbud, rdead⟩ := r
    simp only at hd
    subst hd
    have he : Rt.emp ⟨rnow, roth, rbud, false⟩ = ⟨rnow, roth, rbud, false⟩ := by unfold Rt.emp; rw [if_neg h3]
    rw [he]
    (repeat' with_reducible first |apply qA|apply qB|apply qC|apply qD|apply qE|apply qF|(apply qG;decide)|apply qH|apply qI|apply qJ|apply qK|((first|apply qL|apply qM|apply qN|apply qO|((first|apply qP|apply qQ);decide +kernel));(conv=>lhs;simp only[go_sem, ibin, ishift, z2, z3, z3n, z3m])<;>rfl)|((first|apply qR|apply qS);(conv=>lhs;simp only[go_sem])<;>rfl;rfl)|((first|apply qT|apply qU);(conv=>lhs;simp only[go_sem])<;>rfl;rfl)|apply qV|apply qW|apply qX|apply qY|apply qZ)
    unfold Rt.v
    rw [if_neg (show ¬(Rt.dead (Rt.mk rnow roth rbud false) = true) from fun h => by cases h)]
    have hbd2 : Rt.Bd (Rt.mk rnow roth rbud false) := he ▸ hbd2
    have hsm2 := rsome_spec c (Rt.mk rnow roth rbud false) bs.length (by omega) ⟨by have := hbd2.1; omega, by have := hbd2.2; omega⟩
    have hle := some_le (Rt.mk rnow roth rbud false) bs.length
    have hnw := some_now (Rt.mk rnow roth rbud false) bs.length
    have hbd3 := fill_bd hbd2 bs
    unfold Rt.v at hsm2
    (repeat' with_reducible first |apply qA|apply qB|apply qC|apply qD|apply qE|apply qF|(apply qG;decide)|apply qH|apply qI|apply qJ|apply qK|((first|apply qL|apply qM|apply qN|apply qO|((first|apply qP|apply qQ);decide +kernel));(conv=>lhs;simp only[go_sem, ibin, ishift])<;>rfl)|((first|apply qR|apply qS);(conv=>lhs;simp only[go_sem])<;>rfl;rfl)|((first|apply qT|apply qU);(conv=>lhs;simp only[go_sem])<;>rfl;rfl)|apply qV|apply qW|apply qX|apply qY|apply qZ)
    (with_reducible((first|apply pA|apply pB|apply pC|apply pD|apply pE|((first|apply pF|apply pG);decide +kernel));(conv=>lhs;simp only[go_sem, ibin, ishift])<;>rfl))
    refine CK_pure hsm2 rfl ?_
    rintro v h' ⟨rfl, rfl⟩
    have hf : Rt.fill (Rt.mk rnow roth rbud false) bs = ⟨Rt.now (Rt.mk rnow roth rbud false), bs.take (Rt.some (Rt.mk rnow roth rbud false) bs.length).2, (Rt.some (Rt.mk rnow roth rbud false) bs.length).1.bud, (Rt.some (Rt.mk rnow roth rbud false) bs.length).1.dead⟩ := rfl
    rw [hf] at hbd3 ⊢
    generalize Rt.some (Rt.mk rnow roth rbud false) bs.length = q at hle hnw hbd3
    obtain ⟨⟨qn, qo, qb2, qd⟩, k⟩ := q
    simp only at hle hnw hbd3 ⊢
    obtain ⟨hn1, hn2⟩ := hnw
    have hn1 := hn1.symm
    have hn2 := hn2.symm
    subst hn1
    subst hn2
    have hk0 : (0 : Int) ≤ (k : Int) := by omega
    have hk1 : (k : Int) ≤ (bs.length : Int) := by omega
    (with_reducible((first|apply WO2_finw|apply WO2_fina);(conv=>lhs;simp only[go_sem, ibin, ishift])<;>rfl))
    (repeat' with_reducible first |apply qA|apply qB|apply qC|apply qD|apply qE|apply qF|(apply qG;decide)|apply qH|apply qI|apply qJ|apply qK|((first|apply qL|apply qM|apply qN|apply qO|((first|apply qP|apply qQ);decide +kernel));(conv=>lhs;simp only[go_sem, ibin, ishift, hk0, hk1, hle])<;>rfl)|((first|apply qR|apply qS);(conv=>lhs;simp only[go_sem])<;>rfl;rfl)|((first|apply qT|apply qU);(conv=>lhs;simp only[go_sem])<;>rfl;rfl)|apply qV|apply qW|apply qX|apply qY|apply qZ)
    cases qd with
    | true =>
      simp only [if_true]
      (repeat' with_reducible first |apply qA|apply qB|apply qC|apply qD|apply qE|apply qF|(apply qG;decide)|apply qH|apply qI|apply qJ|apply qK|((first|apply qL|apply qM|apply qN|apply qO|((first|apply qP|apply qQ);decide +kernel));(conv=>lhs;simp only[go_sem, ibin, ishift])<;>rfl)|((first|apply qR|apply qS);(conv=>lhs;simp only[go_sem])<;>rfl;rfl)|((first|apply qT|apply qU);(conv=>lhs;simp only[go_sem])<;>rfl;rfl)|apply qV|apply qW|apply qX|apply qY|apply qZ)
      refine ⟨by first | exact .inr rfl | exact .inl rfl, _, _, (by (conv => lhs; simp only [go_sem, ibin, ishift]) <;> with_reducible rfl), (by (conv => lhs; simp only [go_sem, ibin, ishift]) <;> with_reducible rfl), ?_⟩
      refine ⟨[], by decide, rfl, ?_⟩
      exact ⟨rfl, rfl⟩
    | false =>
      simp only [Bool.false_eq_true, if_false]
      have hsm3 := rsome_spec c ⟨rnow, bs.take k, qb2, false⟩ 1 (by omega) ⟨by have := hbd3.1; omega, by have := hbd3.2; omega⟩
      have hnw3 := some_now ⟨rnow, bs.take k, qb2, false⟩ 1
      have ht : Rt.turn ⟨rnow, bs.take k, qb2, false⟩ = (if (Rt.some ⟨rnow, bs.take k, qb2, false⟩ 1).1.dead = true then (Rt.some ⟨rnow, bs.take k, qb2, false⟩ 1).1 else ⟨bs.take k, rnow, (Rt.some ⟨rnow, bs.take k, qb2, false⟩ 1).1.bud, (Rt.some ⟨rnow, bs.take k, qb2, false⟩ 1).1.dead⟩) := rfl
      rw [ht]
      unfold Rt.v at hsm3
      (repeat' with_reducible first |apply qA|apply qB|apply qC|apply qD|apply qE|apply qF|(apply qG;decide)|apply qH|apply qI|apply qJ|apply qK|((first|apply qL|apply qM|apply qN|apply qO|((first|apply qP|apply qQ);decide +kernel));(conv=>lhs;simp only[go_sem, ibin, ishift])<;>rfl)|((first|apply qR|apply qS);(conv=>lhs;simp only[go_sem])<;>rfl;rfl)|((first|apply qT|apply qU);(conv=>lhs;simp only[go_sem])<;>rfl;rfl)|apply qV|apply qW|apply qX|apply qY|apply qZ)
      (with_reducible((first|apply pA|apply pB|apply pC|apply pD|apply pE|((first|apply pF|apply pG);decide +kernel));(conv=>lhs;simp only[go_sem, ibin, ishift])<;>rfl))
      refine CK_pure hsm3 rfl ?_
      rintro v h' ⟨rfl, rfl⟩
      generalize Rt.some ⟨rnow, bs.take k, qb2, false⟩ 1 = q at hnw3
      obtain ⟨⟨qn, qo, qb3, qd⟩, k3⟩ := q
      simp only at hnw3 ⊢
      obtain ⟨hn1, hn2⟩ := hnw3
      have hn1 := hn1.symm
      have hn2 := hn2.symm
      subst hn1
      subst hn2
      (with_reducible((first|apply WO2_finw|apply WO2_fina);(conv=>lhs;simp only[go_sem, ibin, ishift])<;>rfl))
      cases qd with
      | true =>
        simp only [if_true]
        (repeat' with_reducible first |apply qA|apply qB|apply qC|apply qD|apply qE|apply qF|(apply qG;decide)|apply qH|apply qI|apply qJ|apply qK|((first|apply qL|apply qM|apply qN|apply qO|((first|apply qP|apply qQ);decide +kernel));(conv=>lhs;simp only[go_sem, ibin, ishift])<;>rfl)|((first|apply qR|apply qS);(conv=>lhs;simp only[go_sem])<;>rfl;rfl)|((first|apply qT|apply qU);(conv=>lhs;simp only[go_sem])<;>rfl;rfl)|apply qV|apply qW|apply qX|apply qY|apply qZ)
        have hcs := rcode_spec c (Rt.mk rnow (bs.take k) qb3 true)
        unfold Rt.v at hcs
        (repeat' with_reducible first |apply qA|apply qB|apply qC|apply qD|apply qE|apply qF|(apply qG;decide)|apply qH|apply qI|apply qJ|apply qK|apply qX|((first|apply qR|apply qS);(conv=>lhs;simp only[go_sem])<;>rfl;rfl)|((first|apply qT|apply qU);(conv=>lhs;simp only[go_sem])<;>rfl;rfl)|apply qZ|apply qY|apply qW)
        (with_reducible first | apply W2_sregH [0] [true, false, false, false] | apply W2_regH [0] [true, false, false, false])
        · decide
        · decide
        · rfl
        ((conv => lhs; simp only [go_sem, ibin, ishift]) <;> with_reducible rfl)
        refine EH_pure hcs rfl ?_
        rintro v h' ⟨rfl, rfl⟩
        (with_reducible apply WOH_go (by decide); ((conv => lhs; simp only [go_sem, ibin, ishift]) <;> with_reducible rfl))
        refine EH_go ?_
        (repeat' with_reducible first |apply qA|apply qB|apply qC|apply qD|apply qE|apply qF|(apply qG;decide)|apply qH|apply qI|apply qJ|apply qK|((first|apply qL|apply qM|apply qN|apply qO|((first|apply qP|apply qQ);decide +kernel));(conv=>lhs;simp only[go_sem, ibin, ishift])<;>rfl)|((first|apply qR|apply qS);(conv=>lhs;simp only[go_sem])<;>rfl;rfl)|((first|apply qT|apply qU);(conv=>lhs;simp only[go_sem])<;>rfl;rfl)|apply qV|apply qW|apply qX|apply qY|apply qZ)
        refine ⟨by first | exact .inr rfl | exact .inl rfl, _, _, (by (conv => lhs; simp only [go_sem, ibin, ishift]) <;> with_reducible rfl), (by (conv => lhs; simp only [go_sem, ibin, ishift]) <;> with_reducible rfl), ?_⟩
        refine ⟨[], by decide, rfl, ?_⟩
        exact ⟨rfl, rfl⟩
      | false =>
        simp only [Bool.false_eq_true, if_false]
        (repeat' with_reducible first |apply qA|apply qB|apply qC|apply qD|apply qE|apply qF|(apply qG;decide)|apply qH|apply qI|apply qJ|apply qK|((first|apply qL|apply qM|apply qN|apply qO|((first|apply qP|apply qQ);decide +kernel));(conv=>lhs;simp only[go_sem, ibin, ishift])<;>rfl)|((first|apply qR|apply qS);(conv=>lhs;simp only[go_sem])<;>rfl;rfl)|((first|apply qT|apply qU);(conv=>lhs;simp only[go_sem])<;>rfl;rfl)|apply qV|apply qW|apply qX|apply qY|apply qZ)
        have hcs := rcode_spec c (Rt.mk (bs.take k) rnow qb3 false)
        unfold Rt.v at hcs
        (repeat' with_reducible first |apply qA|apply qB|apply qC|apply qD|apply qE|apply qF|(apply qG;decide)|apply qH|apply qI|apply qJ|apply qK|apply qX|((first|apply qR|apply qS);(conv=>lhs;simp only[go_sem])<;>rfl;rfl)|((first|apply qT|apply qU);(conv=>lhs;simp only[go_sem])<;>rfl;rfl)|apply qZ|apply qY|apply qW)
        (with_reducible first | apply W2_sregH [0] [true, false, false, false] | apply W2_regH [0] [true, false, false, false])
        · decide
        · decide
        · rfl
        ((conv => lhs; simp only [go_sem, ibin, ishift]) <;> with_reducible rfl)
        refine EH_pure hcs rfl ?_
        rintro v h' ⟨rfl, rfl⟩
        (with_reducible apply WOH_go (by decide); ((conv => lhs; simp only [go_sem, ibin, ishift]) <;> with_reducible rfl))
        refine EH_go ?_
        (repeat' with_reducible first |apply qA|apply qB|apply qC|apply qD|apply qE|apply qF|(apply qG;decide)|apply qH|apply qI|apply qJ|apply qK|((first|apply qL|apply qM|apply qN|apply qO|((first|apply qP|apply qQ);decide +kernel));(conv=>lhs;simp only[go_sem, ibin, ishift])<;>rfl)|((first|apply qR|apply qS);(conv=>lhs;simp only[go_sem])<;>rfl;rfl)|((first|apply qT|apply qU);(conv=>lhs;simp only[go_sem])<;>rfl;rfl)|apply qV|apply qW|apply qX|apply qY|apply qZ)
        refine ⟨by first | exact .inr rfl | exact .inl rfl, _, _, (by (conv => lhs; simp only [go_sem, ibin, ishift]) <;> with_reducible rfl), (by (conv => lhs; simp only [go_sem, ibin, ishift]) <;> with_reducible rfl), ?_⟩
        refine ⟨[], by decide, rfl, ?_⟩
        exact ⟨rfl, rfl⟩
def Rt.repair (r : Rt) (n : Nat) : Rt × Int × Int :=
  if r.dead = true then (r, 0, 190) else if n < r.now.length then (if (r.some 1).1.dead = true then ((r.some 1).1, 0, 190) else (⟨r.now.take n, r.oth, (r.some 1).1.bud, (r.some 1).1.dead⟩, (r.now.length : Int) - n, 0)) else (r, (r.now.length : Int) - n, 0)
theorem rrepair_spec (c : TabR19 T) (r : Rt) (hbd : r.Bd) (g : List Nt) (hg : ReadR r.now g) (hl : r.now.length ≤ 100000) : Ret2 T 0 i_stillageref19_Repair [r.v] [] (fun v h' => v = .tup [(r.repair (encsB g).length).1.v, .i .i64 (r.repair (encsB g).length).2.1, .i .i64 (r.repair (encsB g).length).2.2] ∧ h' = []) := by
  refine Ret2_fnv c.rrepair rfl rfl ?_
  have hgs := rgood_spec c r g hg (by omega)
  have hgl := hg.2.1.length_le
  have hsm1 := rsome_spec c r 1 (by omega) ⟨by have := hbd.1; omega, by have := hbd.2; omega⟩
  have hsn := some_now r 1
  unfold Rt.repair
  cases hd : r.dead with
  | true =>
    rw [if_pos rfl]
    unfold Rt.v
    rw [hd]
    (repeat' with_reducible first |apply qA|apply qB|apply qC|apply qD|apply qE|apply qF|(apply qG;decide)|apply qH|apply qI|apply qJ|apply qK|((first|apply qL|apply qM|apply qN|apply qO|((first|apply qP|apply qQ);decide +kernel));(conv=>lhs;simp only[go_sem, ibin, ishift])<;>rfl)|((first|apply qR|apply qS);(conv=>lhs;simp only[go_sem])<;>rfl;rfl)|((first|apply qT|apply qU);(conv=>lhs;simp only[go_sem])<;>rfl;rfl)|apply qV|apply qW|apply qX|apply qY|apply qZ)
    refine ⟨by first | exact .inr rfl | exact .inl rfl, _, _, (by (conv => lhs; simp only [go_sem, ibin, ishift]) <;> with_reducible rfl), (by (conv => lhs; simp only [go_sem, ibin, ishift]) <;> with_reducible rfl), ?_⟩
    refine ⟨[], by decide, rfl, ?_⟩
    exact ⟨rfl, rfl⟩
  | false =>
  rw [if_neg (by decide)]
  have hv : r.v = .agg [.s r.now, .s r.oth, .i .i64 r.bud, .b false] := by rw [Rt.v, hd]
  rw [hv] at hgs hsm1 ⊢
  have w1 : IntKind.i64.wrap ((r.now.length : Int) - ((encsB g).length : Int)) = (r.now.length : Int) - ((encsB g).length : Int) := wi _ (by omega) (by omega)
  generalize (encsB g).length = n at hgs hgl w1
  (repeat' with_reducible first |apply qA|apply qB|apply qC|apply qD|apply qE|apply qF|(apply qG;decide)|apply qH|apply qI|apply qJ|apply qK|((first|apply qL|apply qM|apply qN|apply qO|((first|apply qP|apply qQ);decide +kernel));(conv=>lhs;simp only[go_sem, ibin, ishift])<;>rfl)|((first|apply qR|apply qS);(conv=>lhs;simp only[go_sem])<;>rfl;rfl)|((first|apply qT|apply qU);(conv=>lhs;simp only[go_sem])<;>rfl;rfl)|apply qV|apply qW|apply qX|apply qY|apply qZ)
  (with_reducible((first|apply pA|apply pB|apply pC|apply pD|apply pE|((first|apply pF|apply pG);decide +kernel));(conv=>lhs;simp only[go_sem, ibin, ishift])<;>rfl))
  refine CK_pure hgs rfl ?_
  rintro v h' ⟨rfl, rfl⟩
  (with_reducible((first|apply WO2_finw|apply WO2_fina);(conv=>lhs;simp only[go_sem, ibin, ishift])<;>rfl))
  by_cases h1 : n < r.now.length
  · have z1 : decide ((r.now.length : Int) - (n : Int) > 0) = true := decide_eq_true (by omega)
    have n0 : (0 : Int) ≤ (n : Int) := by omega
    have n1 : (n : Int) ≤ (r.now.length : Int) := by omega
    rw [if_pos h1]
    (repeat' with_reducible first |apply qA|apply qB|apply qC|apply qD|apply qE|apply qF|(apply qG;decide)|apply qH|apply qI|apply qJ|apply qK|((first|apply qL|apply qM|apply qN|apply qO|((first|apply qP|apply qQ);decide +kernel));(conv=>lhs;simp only[go_sem, ibin, ishift, w1, z1])<;>rfl)|((first|apply qR|apply qS);(conv=>lhs;simp only[go_sem])<;>rfl;rfl)|((first|apply qT|apply qU);(conv=>lhs;simp only[go_sem])<;>rfl;rfl)|apply qV|apply qW|apply qX|apply qY|apply qZ)
    (with_reducible((first|apply pA|apply pB|apply pC|apply pD|apply pE|((first|apply pF|apply pG);decide +kernel));(conv=>lhs;simp only[go_sem, ibin, ishift])<;>rfl))
    refine CK_pure hsm1 rfl ?_
    rintro v h' ⟨rfl, rfl⟩
    generalize r.some 1 = q at hsn
    obtain ⟨⟨qn, qo, qb, qd⟩, k⟩ := q
    simp only at hsn ⊢
    obtain ⟨rfl, rfl⟩ := hsn
    unfold Rt.v
    cases qd with
    | true =>
      rw [if_pos rfl]
      (with_reducible((first|apply WO2_finw|apply WO2_fina);(conv=>lhs;simp only[go_sem, ibin, ishift])<;>rfl))
      (repeat' with_reducible first |apply qA|apply qB|apply qC|apply qD|apply qE|apply qF|(apply qG;decide)|apply qH|apply qI|apply qJ|apply qK|((first|apply qL|apply qM|apply qN|apply qO|((first|apply qP|apply qQ);decide +kernel));(conv=>lhs;simp only[go_sem, ibin, ishift])<;>rfl)|((first|apply qR|apply qS);(conv=>lhs;simp only[go_sem])<;>rfl;rfl)|((first|apply qT|apply qU);(conv=>lhs;simp only[go_sem])<;>rfl;rfl)|apply qV|apply qW|apply qX|apply qY|apply qZ)
      refine ⟨by first | exact .inr rfl | exact .inl rfl, _, _, (by (conv => lhs; simp only [go_sem, ibin, ishift]) <;> with_reducible rfl), (by (conv => lhs; simp only [go_sem, ibin, ishift]) <;> with_reducible rfl), ?_⟩
      refine ⟨[], by decide, rfl, ?_⟩
      exact ⟨rfl, rfl⟩
    | false =>
      rw [if_neg (by decide)]
      (with_reducible((first|apply WO2_finw|apply WO2_fina);(conv=>lhs;simp only[go_sem, ibin, ishift])<;>rfl))
      (repeat' with_reducible first |apply qA|apply qB|apply qC|apply qD|apply qE|apply qF|(apply qG;decide)|apply qH|apply qI|apply qJ|apply qK|((first|apply qL|apply qM|apply qN|apply qO|((first|apply qP|apply qQ);decide +kernel));(conv=>lhs;simp only[go_sem, ibin, ishift, n0, n1, hgl])<;>rfl)|((first|apply qR|apply qS);(conv=>lhs;simp only[go_sem])<;>rfl;rfl)|((first|apply qT|apply qU);(conv=>lhs;simp only[go_sem])<;>rfl;rfl)|apply qV|apply qW|apply qX|apply qY|apply qZ)
      refine ⟨by first | exact .inr rfl | exact .inl rfl, _, _, (by (conv => lhs; simp only [go_sem, ibin, ishift]) <;> with_reducible rfl), (by (conv => lhs; simp only [go_sem, ibin, ishift]) <;> with_reducible rfl), ?_⟩
      refine ⟨[], by decide, rfl, ?_⟩
      exact ⟨rfl, rfl⟩
  · have z1 : decide ((r.now.length : Int) - (n : Int) > 0) = false := decide_eq_false (by omega)
    rw [if_neg h1]
    simp only
    rw [hv]
    (repeat' with_reducible first |apply qA|apply qB|apply qC|apply qD|apply qE|apply qF|(apply qG;decide)|apply qH|apply qI|apply qJ|apply qK|((first|apply qL|apply qM|apply qN|apply qO|((first|apply qP|apply qQ);decide +kernel));(conv=>lhs;simp only[go_sem, ibin, ishift, w1, z1])<;>rfl)|((first|apply qR|apply qS);(conv=>lhs;simp only[go_sem])<;>rfl;rfl)|((first|apply qT|apply qU);(conv=>lhs;simp only[go_sem])<;>rfl;rfl)|apply qV|apply qW|apply qX|apply qY|apply qZ)
    refine ⟨by first | exact .inr rfl | exact .inl rfl, _, _, (by (conv => lhs; simp only [go_sem, ibin, ishift]) <;> with_reducible rfl), (by (conv => lhs; simp only [go_sem, ibin, ishift]) <;> with_reducible rfl), ?_⟩
    refine ⟨[], by decide, rfl, ?_⟩
    exact ⟨rfl, rfl⟩
end Go.Proofs.Ytfmkomjflhifnaa.Ab
