/- Chapter 19: TapeTurns. -/
import Derived.Test.YtfmkomjflhifnaaY19s
namespace Go.Proofs.Ytfmkomjflhifnaa.Ab
open Go
set_option linter.unusedVariables false
set_option linter.unusedSimpArgs false
variable {T : AT}
theorem ab_len {p : Tp} {r : Rt} (h : Sim p r) : p.a.length ≤ 65536 ∧ p.b.length ≤ 65536 := by
  have h1 := h.l1
  have h2 := h.l2
  unfold Tp.now at h1
  unfold Tp.oth at h2
  cases hc : p.c with
  | false => rw [hc] at h1 h2; exact ⟨h1, h2⟩
  | true => rw [hc] at h1 h2; exact ⟨h2, h1⟩
theorem min40 (n : Nat) : (if (40 : Int) < (n : Int) then (40 : Int) else (n : Int)) = ((min n 40 : Nat) : Int) := by
  split <;> omega
theorem Ret2.args {k f : Nat} {args args' : List SV} {h : SH} {R : SV → SH → Prop} (H : Ret2 T k f args h R) (ha : ∀ w n ca, P2 (RS w n) args' ca → P2 (RS w n) args ca) : Ret2 T k f args' h R := ⟨fun w ca ch r hp => H.run w ca ch r (ha w _ ca hp)⟩
theorem args_nil4 (w : Wd) (n : Nat) (ca : List AV) (h : P2 (RS w n) [.ptr 0 0, .nils] ca) : P2 (RS w n) [.ptr 0 0, .fz 4 []] ca := by
  refine ⟨h.1, fun j x y hx hy => ?_⟩
  match j, hx with
  | 0, hx => exact h.2 0 x y hx hy
  | 1, hx =>
    have h1 := h.2 1 .nils y rfl hy
    simp only [List.getElem?_cons_succ, List.getElem?_cons_zero, Option.some.injEq] at hx
    subst hx
    cases h1 with
    | p h2 => cases h2; exact .p (.fz0 4)
  | j + 2, hx => simp at hx
theorem append_nil (c : TabT T) (p : Tp) (g : List Nt) (hg : ReadR p.now g) (hl : p.now.length ≤ 100000) : Ret2 T 1 i_tape_Tape_Append [.ptr 0 0, .nils] p.h (fun v h' => v = .i .i64 (p.append (encsB g).length []).2 ∧ h' = (p.append (encsB g).length []).1.h) :=
  (append_spec c p g hg hl [] (by decide)).args args_nil4
/-- what a compacting with a budget does -/
theorem compact_arm {r : Rt} (hd : r.dead = false) {l : List Nt} (hl : ∀ x ∈ l, goodN x) (h : (encsB l).length ≤ 65536) :
    ((r.compact l).2 = 0 ∧ (r.compact l).1.now = encsB l ∧ (r.compact l).1.dead = false) ∨ ((r.compact l).2 = 190 ∧ (r.compact l).1.now = r.now ∧ (r.compact l).1.dead = true) := by
  have e1 : r.emp.now = r.now := by
    unfold Rt.emp
    split
    · split
      · exact (some_now r 1).1
      · rfl
    · rfl
  rw [Rt.compact, if_neg (by rw [hd]; decide), if_neg (fun h => h hl), if_neg (by omega)]
  cases h1 : r.emp.dead with
  | true => simp only [if_true]; exact .inr ⟨by trivial, e1, h1⟩
  | false =>
  simp only [Bool.false_eq_true, if_false]
  cases h2 : (r.emp.fill (encsB l)).dead with
  | true => simp only [if_true]; exact .inr ⟨by trivial, e1, h2⟩
  | false =>
  simp only [Bool.false_eq_true, if_false]
  have e2 : (r.emp.fill (encsB l)).oth = encsB l := by
    have h3 : (r.emp.some (encsB l).length).1.dead = false := h2
    unfold Rt.some at h3
    split at h3
    · rename_i h4
      show (encsB l).take (r.emp.some (encsB l).length).2 = _
      rw [Rt.some, if_pos h4, List.take_length]
    · cases h3
  unfold Rt.turn
  cases h3 : ((r.emp.fill (encsB l)).some 1).1.dead with
  | true =>
    simp only [if_true]
    exact .inr ⟨by rw [Rt.code, if_pos h3], by rw [(some_now _ 1).1]; exact e1, h3⟩
  | false =>
    simp only [Bool.false_eq_true, if_false]
    exact .inl ⟨by rw [Rt.code, if_neg (by simp)], e2, by trivial⟩
theorem tapeTurns_law (c : TabL19 T) (hT : T i_stillagelaw19_TapeTurns = some (.fn c_stillagelaw19_TapeTurns)) (old next : List Nt) (cut : Int) : Ret2 T 0 i_stillagelaw19_TapeTurns [.fz 4 (old.map cN), .fz 4 (next.map cN), .i .i64 cut] [] (fun v h' => v = .b true) := by
  refine Ret2_fnv hT rfl rfl ?_
  (repeat' with_reducible first |apply qA|apply qB|apply qC|apply qD|apply qE|apply qF|(apply qG;decide)|apply qH|apply qI|apply qJ|apply qK|((first|apply qL|apply qM|apply qN|apply qO|((first|apply qP|apply qQ);decide +kernel));(conv=>lhs;simp only[go_sem, ibin, ishift])<;>rfl)|((first|apply qR|apply qS);(conv=>lhs;simp only[go_sem])<;>rfl;rfl)|((first|apply qT|apply qU);(conv=>lhs;simp only[go_sem])<;>rfl;rfl)|apply qV|apply qW|apply qX|apply qY|apply qZ)
  (with_reducible((first|apply pA|apply pB|apply pC|apply pD|apply pE|((first|apply pF|apply pG);decide +kernel));(conv=>lhs;simp only[go_sem, ibin, ishift])<;>rfl))
  refine CK_pure (new_spec c.toTabT) rfl ?_
  rintro v h' ⟨rfl, rfl⟩
  unfold Tp.h Tp.o
  have hS0 := Sim.new
  have hr0 : Rt.new.dead = false ∧ Rt.new.bud = -1 := ⟨rfl, rfl⟩
  generalize Tp.new = p0 at hS0 ⊢
  generalize Rt.new = r0 at hS0 hr0
  (with_reducible((first|apply WO2_finw|apply WO2_fina);(conv=>lhs;simp only[go_sem, ibin, ishift])<;>rfl))
  (repeat' with_reducible first |apply qA|apply qB|apply qC|apply qD|apply qE|apply qF|(apply qG;decide)|apply qH|apply qI|apply qJ|apply qK|((first|apply qL|apply qM|apply qN|apply qO|((first|apply qP|apply qQ);decide +kernel));(conv=>lhs;simp only[go_sem, ibin, ishift])<;>rfl)|((first|apply qR|apply qS);(conv=>lhs;simp only[go_sem])<;>rfl;rfl)|((first|apply qT|apply qU);(conv=>lhs;simp only[go_sem])<;>rfl;rfl)|apply qV|apply qW|apply qX|apply qY|apply qZ)
  (with_reducible((first|apply pA|apply pB|apply pC|apply pD|apply pE|((first|apply pF|apply pG);decide +kernel));(conv=>lhs;simp only[go_sem, ibin, ishift])<;>rfl))
  refine CK_pure (always_spec c.awake) rfl ?_
  rintro v h' ⟨rfl, rfl⟩
  have m1 := min40 old.length
  have m2 := min40 next.length
  have b1 : (0 : Int) ≤ ((min old.length 40 : Nat) : Int) := by omega
  have b2 : ((min old.length 40 : Nat) : Int) ≤ (old.length : Int) := by omega
  have b3 : (0 : Int) ≤ ((min next.length 40 : Nat) : Int) := by omega
  have b4 : ((min next.length 40 : Nat) : Int) ≤ (next.length : Int) := by omega
  have b5 : min old.length 40 ≤ old.length := by omega
  have b6 : min next.length 40 ≤ next.length := by omega
  (with_reducible((first|apply WO2_finw|apply WO2_fina);(conv=>lhs;simp only[go_sem, ibin, ishift])<;>rfl))
  (repeat' with_reducible first |apply qA|apply qB|apply qC|apply qD|apply qE|apply qF|(apply qG;decide)|apply qH|apply qI|apply qJ|apply qK|((first|apply qL|apply qM|apply qN|apply qO|((first|apply qP|apply qQ);decide +kernel));(conv=>lhs;simp only[go_sem, ibin, ishift, m1, m2, b1, b2, b3, b4, b5, b6])<;>rfl)|((first|apply qR|apply qS);(conv=>lhs;simp only[go_sem])<;>rfl;rfl)|((first|apply qT|apply qU);(conv=>lhs;simp only[go_sem])<;>rfl;rfl)|apply qV|apply qW|apply qX|apply qY|apply qZ)
  generalize hO : old.take (min old.length 40) = O
  generalize hN : next.take (min next.length 40) = N
  have hOl : O.length ≤ 40 := by rw [← hO, List.length_take]; omega
  have hNl : N.length ≤ 40 := by rw [← hN, List.length_take]; omega
  (repeat' with_reducible first |apply qA|apply qB|apply qC|apply qD|apply qE|apply qF|(apply qG;decide)|apply qH|apply qI|apply qJ|apply qK|((first|apply qL|apply qM|apply qN|apply qO|((first|apply qP|apply qQ);decide +kernel));(conv=>lhs;simp only[go_sem, ibin, ishift])<;>rfl)|((first|apply qR|apply qS);(conv=>lhs;simp only[go_sem])<;>rfl;rfl)|((first|apply qT|apply qU);(conv=>lhs;simp only[go_sem])<;>rfl;rfl)|apply qV|apply qW|apply qX|apply qY|apply qZ)
  (with_reducible((first|apply pA|apply pB|apply pC|apply pD|apply pE|((first|apply pF|apply pG);decide +kernel));(conv=>lhs;simp only[go_sem, ibin, ishift])<;>rfl))
  have hq := hS0.compact N
  refine CK_call [0, 1, 2] (compact_spec c.toTabT p0 (by have := hS0.l2; unfold Tp.oth at this; omega) N (by omega)) (by decide) (by simp) rfl rfl (by first | rfl | (simp only [go_sem, Tp.h, Tp.o, ci]; done) | (simp only [go_sem, Tp.h, Tp.o, ci] <;> rfl)) ?_
  rintro v h' ⟨rfl, rfl⟩
  by_cases hNg : ∀ x ∈ N, goodN x
  rotate_left
  · rw [show r0.compact N = (r0, 180) by rw [Rt.compact, if_neg (by rw [hr0.1]; decide), if_pos hNg]] at hq
    generalize p0.compact N = q at hq
    obtain ⟨p1, e⟩ := q
    simp only at hq
    obtain ⟨rfl, hS1⟩ := hq
    unfold Tp.h Tp.o
    (with_reducible((first|apply WO2_finw|apply WO2_fina);(conv=>lhs;simp only[go_sem, ibin, ishift])<;>rfl))
    (repeat' with_reducible first |apply qA|apply qB|apply qC|apply qD|apply qE|apply qF|(apply qG;decide)|apply qH|apply qI|apply qJ|apply qK|((first|apply qL|apply qM|apply qN|apply qO|((first|apply qP|apply qQ);decide +kernel));(conv=>lhs;simp only[go_sem, ibin, ishift])<;>rfl)|((first|apply qR|apply qS);(conv=>lhs;simp only[go_sem])<;>rfl;rfl)|((first|apply qT|apply qU);(conv=>lhs;simp only[go_sem])<;>rfl;rfl)|apply qV|apply qW|apply qX|apply qY|apply qZ)
    refine ⟨by first | exact .inr rfl | exact .inl rfl, _, _, (by (conv => lhs; simp only [go_sem, ibin, ishift]) <;> with_reducible rfl), (by (conv => lhs; simp only [go_sem, ibin, ishift]) <;> with_reducible rfl), ?_⟩
    refine ⟨[], by decide, rfl, ?_⟩
    rfl
  have hNe := encsB_le hNg
  rw [compact_free hr0.1 hr0.2 hNg (by omega)] at hq
  generalize p0.compact N = q at hq
  obtain ⟨p1, e⟩ := q
  simp only at hq
  obtain ⟨rfl, hS1⟩ := hq
  unfold Tp.h Tp.o
  (with_reducible((first|apply pA|apply pB|apply pC|apply pD|apply pE|((first|apply pF|apply pG);decide +kernel));(conv=>lhs;simp only[go_sem, ibin, ishift])<;>rfl))
  have hq := hS1.compact O
  refine CK_call [0, 1, 2] (compact_spec c.toTabT p1 (by have := hS1.l2; unfold Tp.oth at this; omega) O (by omega)) (by decide) (by simp) rfl rfl (by first | rfl | (simp only [go_sem, Tp.h, Tp.o, ci]; done) | (simp only [go_sem, Tp.h, Tp.o, ci] <;> rfl)) ?_
  rintro v h' ⟨rfl, rfl⟩
  by_cases hOg : ∀ x ∈ O, goodN x
  rotate_left
  · rw [show Rt.compact ⟨encsB N, r0.now, -1, false⟩ O = (⟨encsB N, r0.now, -1, false⟩, 180) by rw [Rt.compact, if_neg (fun h => by cases h), if_pos hOg]] at hq
    generalize p1.compact O = q at hq
    obtain ⟨p2, e⟩ := q
    simp only at hq
    obtain ⟨rfl, hS2⟩ := hq
    unfold Tp.h Tp.o
    (with_reducible((first|apply WO2_finw|apply WO2_fina);(conv=>lhs;simp only[go_sem, ibin, ishift])<;>rfl))
    (repeat' with_reducible first |apply qA|apply qB|apply qC|apply qD|apply qE|apply qF|(apply qG;decide)|apply qH|apply qI|apply qJ|apply qK|((first|apply qL|apply qM|apply qN|apply qO|((first|apply qP|apply qQ);decide +kernel));(conv=>lhs;simp only[go_sem, ibin, ishift])<;>rfl)|((first|apply qR|apply qS);(conv=>lhs;simp only[go_sem])<;>rfl;rfl)|((first|apply qT|apply qU);(conv=>lhs;simp only[go_sem])<;>rfl;rfl)|apply qV|apply qW|apply qX|apply qY|apply qZ)
    refine ⟨by first | exact .inr rfl | exact .inl rfl, _, _, (by (conv => lhs; simp only [go_sem, ibin, ishift]) <;> with_reducible rfl), (by (conv => lhs; simp only [go_sem, ibin, ishift]) <;> with_reducible rfl), ?_⟩
    refine ⟨[], by decide, rfl, ?_⟩
    rfl
  have hOe := encsB_le hOg
  rw [compact_free rfl rfl hOg (by omega)] at hq
  simp only at hq
  generalize p1.compact O = q at hq
  obtain ⟨p2, e⟩ := q
  simp only at hq
  obtain ⟨rfl, hS2⟩ := hq
  unfold Tp.h Tp.o
  (with_reducible((first|apply WO2_finw|apply WO2_fina);(conv=>lhs;simp only[go_sem, ibin, ishift])<;>rfl))
  (repeat' with_reducible first |apply qA|apply qB|apply qC|apply qD|apply qE|apply qF|(apply qG;decide)|apply qH|apply qI|apply qJ|apply qK|((first|apply qL|apply qM|apply qN|apply qO|((first|apply qP|apply qQ);decide +kernel));(conv=>lhs;simp only[go_sem, ibin, ishift])<;>rfl)|((first|apply qR|apply qS);(conv=>lhs;simp only[go_sem])<;>rfl;rfl)|((first|apply qT|apply qU);(conv=>lhs;simp only[go_sem])<;>rfl;rfl)|apply qV|apply qW|apply qX|apply qY|apply qZ)
  have hcut : ∃ v : Int, IntKind.i64.wrap ((IntKind.u64.wrap cut).tmod 700) = v ∧ 0 ≤ v ∧ v < 700 := by
    have e : IntKind.u64.wrap cut = cut % 18446744073709551616 := rfl
    have h0 : 0 ≤ cut % 18446744073709551616 := Int.emod_nonneg _ (by decide)
    refine ⟨_, ?_, Int.emod_nonneg (cut % 18446744073709551616) (by decide), Int.emod_lt_of_pos (cut % 18446744073709551616) (show (0 : Int) < 700 by decide)⟩
    rw [e, Int.tmod_eq_emod_of_nonneg h0, wi _ (by omega) (by omega)]
  obtain ⟨b, hb, hb0, hb1⟩ := hcut
  (with_reducible((first|apply pA|apply pB|apply pC|apply pD|apply pE|((first|apply pF|apply pG);decide +kernel));(conv=>lhs;simp only[go_sem, ibin, ishift, hb])<;>rfl))
  have hq := hS2.arm b
  refine CK_call [0, 1, 2] (arm_spec c.toTabT p2 b) (by decide) (by simp) rfl rfl (by first | rfl | (simp only [go_sem, Tp.h, Tp.o, ci]; done) | (simp only [go_sem, Tp.h, Tp.o, ci] <;> rfl)) ?_
  rintro v h' ⟨rfl, rfl⟩
  rw [show Rt.arm ⟨encsB O, encsB N, -1, false⟩ b = (⟨encsB O, encsB N, b, false⟩, 0) by rw [Rt.arm, if_neg (fun h => by cases h), if_neg (by omega)]] at hq
  generalize p2.arm b = q at hq
  obtain ⟨p3, e⟩ := q
  simp only at hq
  obtain ⟨rfl, hS3⟩ := hq
  unfold Tp.h Tp.o
  (with_reducible((first|apply WO2_finw|apply WO2_fina);(conv=>lhs;simp only[go_sem, ibin, ishift])<;>rfl))
  (repeat' with_reducible first |apply qA|apply qB|apply qC|apply qD|apply qE|apply qF|(apply qG;decide)|apply qH|apply qI|apply qJ|apply qK|((first|apply qL|apply qM|apply qN|apply qO|((first|apply qP|apply qQ);decide +kernel));(conv=>lhs;simp only[go_sem, ibin, ishift])<;>rfl)|((first|apply qR|apply qS);(conv=>lhs;simp only[go_sem])<;>rfl;rfl)|((first|apply qT|apply qU);(conv=>lhs;simp only[go_sem])<;>rfl;rfl)|apply qV|apply qW|apply qX|apply qY|apply qZ)
  (with_reducible((first|apply pA|apply pB|apply pC|apply pD|apply pE|((first|apply pF|apply pG);decide +kernel));(conv=>lhs;simp only[go_sem, ibin, ishift])<;>rfl))
  have hq := hS3.compact N
  have hcp := compact_arm (r := ⟨encsB O, encsB N, b, false⟩) rfl hNg (by omega)
  refine CK_call [0, 1, 2] (compact_spec c.toTabT p3 (by have := hS3.l2; unfold Tp.oth at this; omega) N (by omega)) (by decide) (by simp) rfl rfl (by first | rfl | (simp only [go_sem, Tp.h, Tp.o, ci]; done) | (simp only [go_sem, Tp.h, Tp.o, ci] <;> rfl)) ?_
  rintro v h' ⟨rfl, rfl⟩
  generalize p3.compact N = q at hq
  generalize Rt.compact ⟨encsB O, encsB N, b, false⟩ N = q2 at hq hcp
  obtain ⟨p4, e⟩ := q
  obtain ⟨r4, e2⟩ := q2
  simp only at hq hcp
  obtain ⟨rfl, hS4⟩ := hq
  have hab := ab_len hS4
  unfold Tp.h Tp.o
  (with_reducible((first|apply WO2_finw|apply WO2_fina);(conv=>lhs;simp only[go_sem, ibin, ishift])<;>rfl))
  (repeat' with_reducible first |apply qA|apply qB|apply qC|apply qD|apply qE|apply qF|(apply qG;decide)|apply qH|apply qI|apply qJ|apply qK|((first|apply qL|apply qM|apply qN|apply qO|((first|apply qP|apply qQ);decide +kernel));(conv=>lhs;simp only[go_sem, ibin, ishift])<;>rfl)|((first|apply qR|apply qS);(conv=>lhs;simp only[go_sem])<;>rfl;rfl)|((first|apply qT|apply qU);(conv=>lhs;simp only[go_sem])<;>rfl;rfl)|apply qV|apply qW|apply qX|apply qY|apply qZ)
  (with_reducible((first|apply pA|apply pB|apply pC|apply pD|apply pE|((first|apply pF|apply pG);decide +kernel));(conv=>lhs;simp only[go_sem, ibin, ishift])<;>rfl))
  refine CK_call [0, 1, 2] (crash_spec c.toTabT p4 (by omega) (by omega)) (by decide) (by simp) rfl rfl (by first | rfl | (simp only [go_sem, Tp.h, Tp.o, ci]; done) | (simp only [go_sem, Tp.h, Tp.o, ci] <;> rfl)) ?_
  rintro v h' ⟨rfl, rfl⟩
  have hS5 := hS4.crash
  have hr5 : r4.crash.now = r4.now := rfl
  have hread : ∃ G, G.length ≤ 40 ∧ ReadR p4.crash.now G ∧ ((e = 0 ∧ G = N) ∨ (e = 190 ∧ G = O)) := by
    rcases hcp with ⟨a1, a2, _⟩ | ⟨a1, a2, _⟩
    · exact ⟨N, hNl, by rw [hS5.now, hr5, a2]; exact readR_encs hNg, .inl ⟨a1, rfl⟩⟩
    · exact ⟨O, hOl, by rw [hS5.now, hr5, a2]; exact readR_encs hOg, .inr ⟨a1, rfl⟩⟩
  obtain ⟨G, hGl, hG, hGe⟩ := hread
  have hdead : e = 190 → p4.dead = true := fun h => by
    rcases hcp with ⟨a1, _⟩ | ⟨_, _, a3⟩
    · omega
    · rw [hS4.dead]; exact a3
  have hrd := tread_spec c.toTabT p4.crash G hG (by have := hS5.l1; omega)
  unfold Tp.h at hrd
  generalize p4.crash = p5 at hrd
  unfold Tp.h Tp.o at *
  (with_reducible((first|apply WO2_finw|apply WO2_fina);(conv=>lhs;simp only[go_sem, ibin, ishift])<;>rfl))
  (repeat' with_reducible first |apply qA|apply qB|apply qC|apply qD|apply qE|apply qF|(apply qG;decide)|apply qH|apply qI|apply qJ|apply qK|((first|apply qL|apply qM|apply qN|apply qO|((first|apply qP|apply qQ);decide +kernel));(conv=>lhs;simp only[go_sem, ibin, ishift])<;>rfl)|((first|apply qR|apply qS);(conv=>lhs;simp only[go_sem])<;>rfl;rfl)|((first|apply qT|apply qU);(conv=>lhs;simp only[go_sem])<;>rfl;rfl)|apply qV|apply qW|apply qX|apply qY|apply qZ)
  (with_reducible((first|apply pA|apply pB|apply pC|apply pD|apply pE|((first|apply pF|apply pG);decide +kernel));(conv=>lhs;simp only[go_sem, ibin, ishift])<;>rfl))
  refine CK_call [3, 4, 5] hrd (by decide) (by simp) rfl rfl (by first | rfl | (simp only [go_sem, Tp.h, Tp.o, ci]; done) | (simp only [go_sem, Tp.h, Tp.o, ci] <;> rfl)) ?_
  rintro v h' ⟨rfl, rfl⟩
  (with_reducible((first|apply WO2_finw|apply WO2_fina);(conv=>lhs;simp only[go_sem, ibin, ishift])<;>rfl))
  rcases hGe with ⟨rfl, rfl⟩ | ⟨rfl, rfl⟩
  · (repeat' with_reducible first |apply qA|apply qB|apply qC|apply qD|apply qE|apply qF|(apply qG;decide)|apply qH|apply qI|apply qJ|apply qK|((first|apply qL|apply qM|apply qN|apply qO|((first|apply qP|apply qQ);decide +kernel));(conv=>lhs;simp only[go_sem, ibin, ishift])<;>rfl)|((first|apply qR|apply qS);(conv=>lhs;simp only[go_sem])<;>rfl;rfl)|((first|apply qT|apply qU);(conv=>lhs;simp only[go_sem])<;>rfl;rfl)|apply qV|apply qW|apply qX|apply qY|apply qZ)
    (with_reducible((first|apply pA|apply pB|apply pC|apply pD|apply pE|((first|apply pF|apply pG);decide +kernel));(conv=>lhs;simp only[go_sem, ibin, ishift])<;>rfl))
    refine CK_lend [6] (same_spec c.toTabR G G (by omega)) rfl (by first | rfl | (simp only [go_sem, cN]; done) | (simp only [go_sem, cN] <;> rfl)) ?_
    rintro v h' ⟨rfl, rfl⟩
    refine ⟨rfl, fun b hb => by simp at hb, ?_⟩
    rw [decide_eq_true rfl]
    (with_reducible((first|apply WO2_finw|apply WO2_fina);(conv=>lhs;simp only[go_sem, ibin, ishift])<;>rfl))
    (repeat' with_reducible first |apply qA|apply qB|apply qC|apply qD|apply qE|apply qF|(apply qG;decide)|apply qH|apply qI|apply qJ|apply qK|((first|apply qL|apply qM|apply qN|apply qO|((first|apply qP|apply qQ);decide +kernel));(conv=>lhs;simp only[go_sem, ibin, ishift])<;>rfl)|((first|apply qR|apply qS);(conv=>lhs;simp only[go_sem])<;>rfl;rfl)|((first|apply qT|apply qU);(conv=>lhs;simp only[go_sem])<;>rfl;rfl)|apply qV|apply qW|apply qX|apply qY|apply qZ)
    refine ⟨by first | exact .inr rfl | exact .inl rfl, _, _, (by (conv => lhs; simp only [go_sem, ibin, ishift]) <;> with_reducible rfl), (by (conv => lhs; simp only [go_sem, ibin, ishift]) <;> with_reducible rfl), ?_⟩
    refine ⟨[], by decide, rfl, ?_⟩
    rfl
  have hd := hdead rfl
  obtain ⟨g4, hg4⟩ := readR_ex p4.now
  have han := append_nil c.toTabT p4 g4 hg4 (by have := hS4.l1; omega)
  rw [show p4.append (encsB g4).length [] = (p4, 190) by rw [Tp.append, if_pos hd]] at han
  have har := arm_spec c.toTabT p4 1
  rw [show p4.arm 1 = (p4, 190) by rw [Tp.arm, if_pos hd]] at har
  unfold Tp.h Tp.o at han har
  (repeat' with_reducible first |apply qA|apply qB|apply qC|apply qD|apply qE|apply qF|(apply qG;decide)|apply qH|apply qI|apply qJ|apply qK|((first|apply qL|apply qM|apply qN|apply qO|((first|apply qP|apply qQ);decide +kernel));(conv=>lhs;simp only[go_sem, ibin, ishift])<;>rfl)|((first|apply qR|apply qS);(conv=>lhs;simp only[go_sem])<;>rfl;rfl)|((first|apply qT|apply qU);(conv=>lhs;simp only[go_sem])<;>rfl;rfl)|apply qV|apply qW|apply qX|apply qY|apply qZ)
  (with_reducible((first|apply pA|apply pB|apply pC|apply pD|apply pE|((first|apply pF|apply pG);decide +kernel));(conv=>lhs;simp only[go_sem, ibin, ishift])<;>rfl))
  refine CK_lend [6] (same_spec c.toTabR G G (by omega)) rfl (by first | rfl | (simp only [go_sem, cN]; done) | (simp only [go_sem, cN] <;> rfl)) ?_
  rintro v h' ⟨rfl, rfl⟩
  refine ⟨rfl, fun b hb => by simp at hb, ?_⟩
  rw [decide_eq_true rfl]
  (with_reducible((first|apply pA|apply pB|apply pC|apply pD|apply pE|((first|apply pF|apply pG);decide +kernel));(conv=>lhs;simp only[go_sem, ibin, ishift])<;>rfl))
  refine CK_call [0, 1, 2] han (by decide) (by simp) rfl rfl (by first | rfl | (simp only [go_sem, ci]; done) | (simp only [go_sem, ci] <;> rfl)) ?_
  rintro v h' ⟨rfl, rfl⟩
  (with_reducible((first|apply pA|apply pB|apply pC|apply pD|apply pE|((first|apply pF|apply pG);decide +kernel));(conv=>lhs;simp only[go_sem, ibin, ishift])<;>rfl))
  refine CK_call [0, 1, 2] har (by decide) (by simp) rfl rfl (by first | rfl | (simp only [go_sem, ci]; done) | (simp only [go_sem, ci] <;> rfl)) ?_
  rintro v h' ⟨rfl, rfl⟩
  (with_reducible((first|apply WO2_finw|apply WO2_fina);(conv=>lhs;simp only[go_sem, ibin, ishift])<;>rfl))
  (repeat' with_reducible first |apply qA|apply qB|apply qC|apply qD|apply qE|apply qF|(apply qG;decide)|apply qH|apply qI|apply qJ|apply qK|((first|apply qL|apply qM|apply qN|apply qO|((first|apply qP|apply qQ);decide +kernel));(conv=>lhs;simp only[go_sem, ibin, ishift])<;>rfl)|((first|apply qR|apply qS);(conv=>lhs;simp only[go_sem])<;>rfl;rfl)|((first|apply qT|apply qU);(conv=>lhs;simp only[go_sem])<;>rfl;rfl)|apply qV|apply qW|apply qX|apply qY|apply qZ)
  refine ⟨by first | exact .inr rfl | exact .inl rfl, _, _, (by (conv => lhs; simp only [go_sem, ibin, ishift]) <;> with_reducible rfl), (by (conv => lhs; simp only [go_sem, ibin, ishift]) <;> with_reducible rfl), ?_⟩
  refine ⟨[], by decide, rfl, ?_⟩
  rfl
end Go.Proofs.Ytfmkomjflhifnaa.Ab
