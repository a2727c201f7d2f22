/- Chapter 19: the tape: units, bytes put behind, cuts. -/
import Derived.Test.YtfmkomjflhifnaaY19j
namespace Go.Proofs.Ytfmkomjflhifnaa.Ab
open Go
set_option linter.unusedVariables false
set_option linter.unusedSimpArgs false
variable {T : AT}
theorem unit_put (c : TabT T) (p : Tp) (i : Bool) (x : UInt8) (hl : (p.area i).length ≤ 1000000) : Ret2 T 4 i_tape_Tape_unit [.ptr 0 0, .fn i_tape_Tape_put_1 [] [.ptr 1 0, .ptr 2 0, .ptr 3 0]] (p.h3 (boxI i) (box8 x)) (fun v h' => v = .tup [] ∧ h' = (p.unit fun q => q.put1 i (q.area i ++ [x])).h3 (boxI i) (box8 x)) := by
  refine Ret2_fnv c.unit rfl rfl ?_
  obtain ⟨a, b, cc, armed, bud, dead⟩ := p
  unfold Tp.unit
  simp only
  cases dead with
  | true =>
    unfold Tp.h3 Tp.o boxI boxT
    (repeat' with_reducible first |apply qA|apply qB|apply qC|apply qD|apply qE|apply qF|(apply qG;decide)|apply qH|apply qI|apply qJ|apply qK|((first|apply qL|apply qM|apply qN|apply qO|((first|apply qP|apply qQ);decide +kernel));(conv=>lhs;simp only[go_sem, ibin, ishift])<;>rfl)|((first|apply qR|apply qS);(conv=>lhs;simp only[go_sem])<;>rfl;rfl)|((first|apply qT|apply qU);(conv=>lhs;simp only[go_sem])<;>rfl;rfl)|apply qV|apply qW|apply qX|apply qY|apply qZ)
    refine ⟨by first | exact .inr rfl | exact .inl rfl, _, _, (by (conv => lhs; simp only [go_sem, ibin, ishift]) <;> with_reducible rfl), (by (conv => lhs; simp only [go_sem, ibin, ishift]) <;> with_reducible rfl), ?_⟩
    refine ⟨[0, 1, 2, 3, 4, 5], by decide, rfl, ?_⟩
    exact ⟨rfl, rfl⟩
  | false =>
    rw [if_neg (by decide)]
    cases armed with
    | true =>
      by_cases h0 : bud = 0
      · have z1 : decide (bud = 0) = true := decide_eq_true h0
        rw [if_pos ⟨rfl, h0⟩]
        unfold Tp.h3 Tp.o boxI boxT
        (repeat' with_reducible first |apply qA|apply qB|apply qC|apply qD|apply qE|apply qF|(apply qG;decide)|apply qH|apply qI|apply qJ|apply qK|((first|apply qL|apply qM|apply qN|apply qO|((first|apply qP|apply qQ);decide +kernel));(conv=>lhs;simp only[go_sem, ibin, ishift, z1])<;>rfl)|((first|apply qR|apply qS);(conv=>lhs;simp only[go_sem])<;>rfl;rfl)|((first|apply qT|apply qU);(conv=>lhs;simp only[go_sem])<;>rfl;rfl)|apply qV|apply qW|apply qX|apply qY|apply qZ)
        refine ⟨by first | exact .inr rfl | exact .inl rfl, _, _, (by (conv => lhs; simp only [go_sem, ibin, ishift]) <;> with_reducible rfl), (by (conv => lhs; simp only [go_sem, ibin, ishift]) <;> with_reducible rfl), ?_⟩
        refine ⟨[0, 1, 2, 3, 4, 5], by decide, rfl, ?_⟩
        exact ⟨rfl, rfl⟩
      · have z1 : decide (bud = 0) = false := decide_eq_false h0
        rw [if_neg (fun h => h0 h.2)]
        unfold Tp.h3 Tp.o boxI boxT
        (repeat' with_reducible first |apply qA|apply qB|apply qC|apply qD|apply qE|apply qF|(apply qG;decide)|apply qH|apply qI|apply qJ|apply qK|((first|apply qL|apply qM|apply qN|apply qO|((first|apply qP|apply qQ);decide +kernel));(conv=>lhs;simp only[go_sem, ibin, ishift, z1])<;>rfl)|((first|apply qR|apply qS);(conv=>lhs;simp only[go_sem])<;>rfl;rfl)|((first|apply qT|apply qU);(conv=>lhs;simp only[go_sem])<;>rfl;rfl)|apply qV|apply qW|apply qX|apply qY|apply qZ)
        (with_reducible((first|apply pA|apply pB|apply pC|apply pD|apply pE|((first|apply pF|apply pG);decide +kernel));(conv=>lhs;simp only[go_sem, ibin, ishift])<;>rfl))
        refine CK_call [0, 1, 2, 3, 4, 5] (put1_spec c ⟨a, b, cc, _, IntKind.i64.wrap (bud - 1), false⟩ i x hl) (by decide) (by simp) rfl rfl (by first | rfl | (simp only [go_sem, Tp.h3 Tp.o boxI boxT]; done) | (simp only [go_sem, Tp.h3 Tp.o boxI boxT] <;> rfl)) ?_
        rintro v h' ⟨rfl, rfl⟩
        (with_reducible((first|apply pA|apply pB|apply pC|apply pD|apply pE|((first|apply pF|apply pG);decide +kernel));(conv=>lhs;simp only[go_sem, ibin, ishift])<;>rfl))
        show (_ ∨ _) ∧ _
        refine ⟨by first | exact .inr rfl | exact .inl rfl, _, _, (by (conv => lhs; simp only [go_sem, ibin, ishift]) <;> with_reducible rfl), (by (conv => lhs; simp only [go_sem, ibin, ishift]) <;> with_reducible rfl), ?_⟩
        refine ⟨[0, 1, 2, 3, 4, 5], by decide, rfl, ?_⟩
        exact ⟨rfl, rfl⟩
    | false =>
      have z1 : decide (true = true) = true := rfl
      rw [if_neg (fun h => by cases h.1)]
      unfold Tp.h3 Tp.o boxI boxT
      (repeat' with_reducible first |apply qA|apply qB|apply qC|apply qD|apply qE|apply qF|(apply qG;decide)|apply qH|apply qI|apply qJ|apply qK|((first|apply qL|apply qM|apply qN|apply qO|((first|apply qP|apply qQ);decide +kernel));(conv=>lhs;simp only[go_sem, ibin, ishift, z1])<;>rfl)|((first|apply qR|apply qS);(conv=>lhs;simp only[go_sem])<;>rfl;rfl)|((first|apply qT|apply qU);(conv=>lhs;simp only[go_sem])<;>rfl;rfl)|apply qV|apply qW|apply qX|apply qY|apply qZ)
      (with_reducible((first|apply pA|apply pB|apply pC|apply pD|apply pE|((first|apply pF|apply pG);decide +kernel));(conv=>lhs;simp only[go_sem, ibin, ishift])<;>rfl))
      refine CK_call [0, 1, 2, 3, 4, 5] (put1_spec c ⟨a, b, cc, _, IntKind.i64.wrap (bud - 1), false⟩ i x hl) (by decide) (by simp) rfl rfl (by first | rfl | (simp only [go_sem, Tp.h3 Tp.o boxI boxT]; done) | (simp only [go_sem, Tp.h3 Tp.o boxI boxT] <;> rfl)) ?_
      rintro v h' ⟨rfl, rfl⟩
      (with_reducible((first|apply pA|apply pB|apply pC|apply pD|apply pE|((first|apply pF|apply pG);decide +kernel));(conv=>lhs;simp only[go_sem, ibin, ishift])<;>rfl))
      show (_ ∨ _) ∧ _
      refine ⟨by first | exact .inr rfl | exact .inl rfl, _, _, (by (conv => lhs; simp only [go_sem, ibin, ishift]) <;> with_reducible rfl), (by (conv => lhs; simp only [go_sem, ibin, ishift]) <;> with_reducible rfl), ?_⟩
      refine ⟨[0, 1, 2, 3, 4, 5], by decide, rfl, ?_⟩
      exact ⟨rfl, rfl⟩
theorem unit_cut (c : TabT T) (p : Tp) (i : Bool) (n : Nat) (hl : (p.area i).length ≤ 1000000) (hn : n ≤ (p.area i).length) : Ret2 T 4 i_tape_Tape_unit [.ptr 0 0, .fn i_tape_Tape_cut_1 [] [.ptr 1 0, .ptr 2 0, .ptr 3 0]] (p.h3 (boxI i) (boxN n)) (fun v h' => v = .tup [] ∧ h' = (p.unit fun q => q.put1 i ((q.area i).take n)).h3 (boxI i) (boxN n)) := by
  refine Ret2_fnv c.unit rfl rfl ?_
  obtain ⟨a, b, cc, armed, bud, dead⟩ := p
  unfold Tp.unit
  simp only
  cases dead with
  | true =>
    unfold Tp.h3 Tp.o boxI boxT
    (repeat' with_reducible first |apply qA|apply qB|apply qC|apply qD|apply qE|apply qF|(apply qG;decide)|apply qH|apply qI|apply qJ|apply qK|((first|apply qL|apply qM|apply qN|apply qO|((first|apply qP|apply qQ);decide +kernel));(conv=>lhs;simp only[go_sem, ibin, ishift])<;>rfl)|((first|apply qR|apply qS);(conv=>lhs;simp only[go_sem])<;>rfl;rfl)|((first|apply qT|apply qU);(conv=>lhs;simp only[go_sem])<;>rfl;rfl)|apply qV|apply qW|apply qX|apply qY|apply qZ)
    refine ⟨by first | exact .inr rfl | exact .inl rfl, _, _, (by (conv => lhs; simp only [go_sem, ibin, ishift]) <;> with_reducible rfl), (by (conv => lhs; simp only [go_sem, ibin, ishift]) <;> with_reducible rfl), ?_⟩
    refine ⟨[0, 1, 2, 3, 4, 5], by decide, rfl, ?_⟩
    exact ⟨rfl, rfl⟩
  | false =>
    rw [if_neg (by decide)]
    cases armed with
    | true =>
      by_cases h0 : bud = 0
      · have z1 : decide (bud = 0) = true := decide_eq_true h0
        rw [if_pos ⟨rfl, h0⟩]
        unfold Tp.h3 Tp.o boxI boxT
        (repeat' with_reducible first |apply qA|apply qB|apply qC|apply qD|apply qE|apply qF|(apply qG;decide)|apply qH|apply qI|apply qJ|apply qK|((first|apply qL|apply qM|apply qN|apply qO|((first|apply qP|apply qQ);decide +kernel));(conv=>lhs;simp only[go_sem, ibin, ishift, z1])<;>rfl)|((first|apply qR|apply qS);(conv=>lhs;simp only[go_sem])<;>rfl;rfl)|((first|apply qT|apply qU);(conv=>lhs;simp only[go_sem])<;>rfl;rfl)|apply qV|apply qW|apply qX|apply qY|apply qZ)
        refine ⟨by first | exact .inr rfl | exact .inl rfl, _, _, (by (conv => lhs; simp only [go_sem, ibin, ishift]) <;> with_reducible rfl), (by (conv => lhs; simp only [go_sem, ibin, ishift]) <;> with_reducible rfl), ?_⟩
        refine ⟨[0, 1, 2, 3, 4, 5], by decide, rfl, ?_⟩
        exact ⟨rfl, rfl⟩
      · have z1 : decide (bud = 0) = false := decide_eq_false h0
        rw [if_neg (fun h => h0 h.2)]
        unfold Tp.h3 Tp.o boxI boxT
        (repeat' with_reducible first |apply qA|apply qB|apply qC|apply qD|apply qE|apply qF|(apply qG;decide)|apply qH|apply qI|apply qJ|apply qK|((first|apply qL|apply qM|apply qN|apply qO|((first|apply qP|apply qQ);decide +kernel));(conv=>lhs;simp only[go_sem, ibin, ishift, z1])<;>rfl)|((first|apply qR|apply qS);(conv=>lhs;simp only[go_sem])<;>rfl;rfl)|((first|apply qT|apply qU);(conv=>lhs;simp only[go_sem])<;>rfl;rfl)|apply qV|apply qW|apply qX|apply qY|apply qZ)
        (with_reducible((first|apply pA|apply pB|apply pC|apply pD|apply pE|((first|apply pF|apply pG);decide +kernel));(conv=>lhs;simp only[go_sem, ibin, ishift])<;>rfl))
        refine CK_call [0, 1, 2, 3, 4, 5] (cut1_spec c ⟨a, b, cc, _, IntKind.i64.wrap (bud - 1), false⟩ i n hl hn) (by decide) (by simp) rfl rfl (by first | rfl | (simp only [go_sem, Tp.h3 Tp.o boxI boxT]; done) | (simp only [go_sem, Tp.h3 Tp.o boxI boxT] <;> rfl)) ?_
        rintro v h' ⟨rfl, rfl⟩
        (with_reducible((first|apply pA|apply pB|apply pC|apply pD|apply pE|((first|apply pF|apply pG);decide +kernel));(conv=>lhs;simp only[go_sem, ibin, ishift])<;>rfl))
        show (_ ∨ _) ∧ _
        refine ⟨by first | exact .inr rfl | exact .inl rfl, _, _, (by (conv => lhs; simp only [go_sem, ibin, ishift]) <;> with_reducible rfl), (by (conv => lhs; simp only [go_sem, ibin, ishift]) <;> with_reducible rfl), ?_⟩
        refine ⟨[0, 1, 2, 3, 4, 5], by decide, rfl, ?_⟩
        exact ⟨rfl, rfl⟩
    | false =>
      have z1 : decide (true = true) = true := rfl
      rw [if_neg (fun h => by cases h.1)]
      unfold Tp.h3 Tp.o boxI boxT
      (repeat' with_reducible first |apply qA|apply qB|apply qC|apply qD|apply qE|apply qF|(apply qG;decide)|apply qH|apply qI|apply qJ|apply qK|((first|apply qL|apply qM|apply qN|apply qO|((first|apply qP|apply qQ);decide +kernel));(conv=>lhs;simp only[go_sem, ibin, ishift, z1])<;>rfl)|((first|apply qR|apply qS);(conv=>lhs;simp only[go_sem])<;>rfl;rfl)|((first|apply qT|apply qU);(conv=>lhs;simp only[go_sem])<;>rfl;rfl)|apply qV|apply qW|apply qX|apply qY|apply qZ)
      (with_reducible((first|apply pA|apply pB|apply pC|apply pD|apply pE|((first|apply pF|apply pG);decide +kernel));(conv=>lhs;simp only[go_sem, ibin, ishift])<;>rfl))
      refine CK_call [0, 1, 2, 3, 4, 5] (cut1_spec c ⟨a, b, cc, _, IntKind.i64.wrap (bud - 1), false⟩ i n hl hn) (by decide) (by simp) rfl rfl (by first | rfl | (simp only [go_sem, Tp.h3 Tp.o boxI boxT]; done) | (simp only [go_sem, Tp.h3 Tp.o boxI boxT] <;> rfl)) ?_
      rintro v h' ⟨rfl, rfl⟩
      (with_reducible((first|apply pA|apply pB|apply pC|apply pD|apply pE|((first|apply pF|apply pG);decide +kernel));(conv=>lhs;simp only[go_sem, ibin, ishift])<;>rfl))
      show (_ ∨ _) ∧ _
      refine ⟨by first | exact .inr rfl | exact .inl rfl, _, _, (by (conv => lhs; simp only [go_sem, ibin, ishift]) <;> with_reducible rfl), (by (conv => lhs; simp only [go_sem, ibin, ishift]) <;> with_reducible rfl), ?_⟩
      refine ⟨[0, 1, 2, 3, 4, 5], by decide, rfl, ?_⟩
      exact ⟨rfl, rfl⟩
def Tp.turn (i : Bool) (p : Tp) : Tp := ⟨p.a, p.b, i, p.armed, p.bud, p.dead⟩
theorem unit_comp (c : TabT T) (p : Tp) (i : Bool) : Ret2 T 3 i_tape_Tape_unit [.ptr 0 0, .fn i_tape_Tape_Compact_1 [] [.ptr 2 0, .ptr 1 0]] [p.o 3 4, boxT, boxI i, some (.arr 1 (p.a.map c8)), some (.arr 1 (p.b.map c8))] (fun v h' => v = .tup [] ∧ h' = [(p.unit (Tp.turn i)).o 3 4, boxT, boxI i, some (.arr 1 ((p.unit (Tp.turn i)).a.map c8)), some (.arr 1 ((p.unit (Tp.turn i)).b.map c8))]) := by
  refine Ret2_fnv c.unit rfl rfl ?_
  obtain ⟨a, b, cc, armed, bud, dead⟩ := p
  unfold Tp.unit
  simp only
  cases dead with
  | true =>
    unfold Tp.o boxI boxT
    (repeat' with_reducible first |apply qA|apply qB|apply qC|apply qD|apply qE|apply qF|(apply qG;decide)|apply qH|apply qI|apply qJ|apply qK|((first|apply qL|apply qM|apply qN|apply qO|((first|apply qP|apply qQ);decide +kernel));(conv=>lhs;simp only[go_sem, ibin, ishift])<;>rfl)|((first|apply qR|apply qS);(conv=>lhs;simp only[go_sem])<;>rfl;rfl)|((first|apply qT|apply qU);(conv=>lhs;simp only[go_sem])<;>rfl;rfl)|apply qV|apply qW|apply qX|apply qY|apply qZ)
    refine ⟨by first | exact .inr rfl | exact .inl rfl, _, _, (by (conv => lhs; simp only [go_sem, ibin, ishift]) <;> with_reducible rfl), (by (conv => lhs; simp only [go_sem, ibin, ishift]) <;> with_reducible rfl), ?_⟩
    refine ⟨[0, 1, 2, 3, 4], by decide, rfl, ?_⟩
    exact ⟨rfl, rfl⟩
  | false =>
    rw [if_neg (by decide)]
    cases armed with
    | true =>
      by_cases h0 : bud = 0
      · have z1 : decide (bud = 0) = true := decide_eq_true h0
        rw [if_pos ⟨rfl, h0⟩]
        unfold Tp.o boxI boxT
        (repeat' with_reducible first |apply qA|apply qB|apply qC|apply qD|apply qE|apply qF|(apply qG;decide)|apply qH|apply qI|apply qJ|apply qK|((first|apply qL|apply qM|apply qN|apply qO|((first|apply qP|apply qQ);decide +kernel));(conv=>lhs;simp only[go_sem, ibin, ishift, z1])<;>rfl)|((first|apply qR|apply qS);(conv=>lhs;simp only[go_sem])<;>rfl;rfl)|((first|apply qT|apply qU);(conv=>lhs;simp only[go_sem])<;>rfl;rfl)|apply qV|apply qW|apply qX|apply qY|apply qZ)
        refine ⟨by first | exact .inr rfl | exact .inl rfl, _, _, (by (conv => lhs; simp only [go_sem, ibin, ishift]) <;> with_reducible rfl), (by (conv => lhs; simp only [go_sem, ibin, ishift]) <;> with_reducible rfl), ?_⟩
        refine ⟨[0, 1, 2, 3, 4], by decide, rfl, ?_⟩
        exact ⟨rfl, rfl⟩
      · have z1 : decide (bud = 0) = false := decide_eq_false h0
        rw [if_neg (fun h => h0 h.2)]
        unfold Tp.o boxI boxT
        (repeat' with_reducible first |apply qA|apply qB|apply qC|apply qD|apply qE|apply qF|(apply qG;decide)|apply qH|apply qI|apply qJ|apply qK|((first|apply qL|apply qM|apply qN|apply qO|((first|apply qP|apply qQ);decide +kernel));(conv=>lhs;simp only[go_sem, ibin, ishift, z1])<;>rfl)|((first|apply qR|apply qS);(conv=>lhs;simp only[go_sem])<;>rfl;rfl)|((first|apply qT|apply qU);(conv=>lhs;simp only[go_sem])<;>rfl;rfl)|apply qV|apply qW|apply qX|apply qY|apply qZ)
        (with_reducible((first|apply pA|apply pB|apply pC|apply pD|apply pE|((first|apply pF|apply pG);decide +kernel));(conv=>lhs;simp only[go_sem, ibin, ishift])<;>rfl))
        refine CK_call [0, 1, 2, 3, 4] (comp1_spec c ⟨a, b, cc, _, IntKind.i64.wrap (bud - 1), false⟩ i) (by decide) (by simp) rfl rfl (by first | rfl | (simp only [go_sem, Tp.o boxI boxT]; done) | (simp only [go_sem, Tp.o boxI boxT] <;> rfl)) ?_
        rintro v h' ⟨rfl, rfl⟩
        (with_reducible((first|apply pA|apply pB|apply pC|apply pD|apply pE|((first|apply pF|apply pG);decide +kernel));(conv=>lhs;simp only[go_sem, ibin, ishift])<;>rfl))
        show (_ ∨ _) ∧ _
        refine ⟨by first | exact .inr rfl | exact .inl rfl, _, _, (by (conv => lhs; simp only [go_sem, ibin, ishift]) <;> with_reducible rfl), (by (conv => lhs; simp only [go_sem, ibin, ishift]) <;> with_reducible rfl), ?_⟩
        refine ⟨[0, 1, 2, 3, 4], by decide, rfl, ?_⟩
        exact ⟨rfl, rfl⟩
    | false =>
      have z1 : decide (true = true) = true := rfl
      rw [if_neg (fun h => by cases h.1)]
      unfold Tp.o boxI boxT
      (repeat' with_reducible first |apply qA|apply qB|apply qC|apply qD|apply qE|apply qF|(apply qG;decide)|apply qH|apply qI|apply qJ|apply qK|((first|apply qL|apply qM|apply qN|apply qO|((first|apply qP|apply qQ);decide +kernel));(conv=>lhs;simp only[go_sem, ibin, ishift, z1])<;>rfl)|((first|apply qR|apply qS);(conv=>lhs;simp only[go_sem])<;>rfl;rfl)|((first|apply qT|apply qU);(conv=>lhs;simp only[go_sem])<;>rfl;rfl)|apply qV|apply qW|apply qX|apply qY|apply qZ)
      (with_reducible((first|apply pA|apply pB|apply pC|apply pD|apply pE|((first|apply pF|apply pG);decide +kernel));(conv=>lhs;simp only[go_sem, ibin, ishift])<;>rfl))
      refine CK_call [0, 1, 2, 3, 4] (comp1_spec c ⟨a, b, cc, _, IntKind.i64.wrap (bud - 1), false⟩ i) (by decide) (by simp) rfl rfl (by first | rfl | (simp only [go_sem, Tp.o boxI boxT]; done) | (simp only [go_sem, Tp.o boxI boxT] <;> rfl)) ?_
      rintro v h' ⟨rfl, rfl⟩
      (with_reducible((first|apply pA|apply pB|apply pC|apply pD|apply pE|((first|apply pF|apply pG);decide +kernel));(conv=>lhs;simp only[go_sem, ibin, ishift])<;>rfl))
      show (_ ∨ _) ∧ _
      refine ⟨by first | exact .inr rfl | exact .inl rfl, _, _, (by (conv => lhs; simp only [go_sem, ibin, ishift]) <;> with_reducible rfl), (by (conv => lhs; simp only [go_sem, ibin, ishift]) <;> with_reducible rfl), ?_⟩
      refine ⟨[0, 1, 2, 3, 4], by decide, rfl, ?_⟩
      exact ⟨rfl, rfl⟩
def Tp.puts (p : Tp) (i : Bool) (l : List UInt8) : Tp := l.foldl (fun p x => p.unit fun q => q.put1 i (q.area i ++ [x])) p
theorem area_put (i : Bool) (l : List UInt8) (p : Tp) : (p.put1 i l).area i = l := by cases i <;> rfl
theorem area_put2 (i : Bool) (l : List UInt8) (p : Tp) : (p.put1 i l).area (!i) = p.area (!i) := by cases i <;> rfl
theorem puts_len (i : Bool) : ∀ (l : List UInt8) (p : Tp), ((p.puts i l).area i).length ≤ (p.area i).length + l.length
  | [], p => Nat.le_refl _
  | x :: l, p => by
    refine Nat.le_trans (puts_len i l _) ?_
    have : ((p.unit fun q => q.put1 i (q.area i ++ [x])).area i).length ≤ (p.area i).length + 1 := by
      unfold Tp.unit
      split
      · omega
      split
      · cases i <;> simp [Tp.area]
      · rw [area_put]; cases i <;> simp [Tp.area]
    simp only [List.length_cons]; omega
theorem puts_take (p : Tp) (i : Bool) {l : List UInt8} {j : Nat} {x : UInt8} (h : l[j]? = some x) : p.puts i (l.take (j + 1)) = (p.puts i (l.take j)).unit fun q => q.put1 i (q.area i ++ [x]) := by
  rw [List.take_add_one, h, Tp.puts, List.foldl_append]; rfl
theorem put_spec (c : TabT T) (p : Tp) (i : Bool) (l : List UInt8) (hl : (p.area i).length + l.length ≤ 1000000) : Ret2 T 1 i_tape_Tape_put [.ptr 0 0, .i .i64 (ci i), .fz 1 (l.map c8)] p.h (fun v h' => v = .tup [] ∧ h' = (p.puts i l).h) := by
  refine Ret2_fnv c.put rfl rfl ?_
  unfold Tp.h Tp.o
  (repeat' with_reducible first |apply qA|apply qB|apply qC|apply qD|apply qE|apply qF|(apply qG;decide)|apply qH|apply qI|apply qJ|apply qK|((first|apply qL|apply qM|apply qN|apply qO|((first|apply qP|apply qQ);decide +kernel));(conv=>lhs;simp only[go_sem, ibin, ishift])<;>rfl)|((first|apply qR|apply qS);(conv=>lhs;simp only[go_sem])<;>rfl;rfl)|((first|apply qT|apply qU);(conv=>lhs;simp only[go_sem])<;>rfl;rfl)|apply qV|apply qW|apply qX|apply qY|apply qZ)
  refine W2_loopu (fun m u g => ∃ (j : Nat) (q : Tp), j + m = l.length ∧ q = p.puts i (l.take j) ∧ u = [(10, .i .i64 j)] ∧ g = [(0, .obj [.sl 1 1 0 q.a.length none, .sl 1 2 0 q.b.length none, .i .i64 (ci q.c), .b q.armed, .i .i64 q.bud, .b q.dead]), (1, .arr 1 (q.a.map c8)), (2, .arr 1 (q.b.map c8))]) l.length ⟨0, p, by omega, rfl, rfl, rfl⟩ rfl rfl ?_
  rintro m u g ⟨j, q, hj, hq, rfl, rfl⟩
  intro e1 h1 he1 hh1; simp only [egd, supE, hgd, supH, Nat.reduceEqDiff, Nat.reduceAdd, if_true, if_false, reduceIte] at he1 hh1; subst he1; subst hh1
  by_cases hjt : j < l.length
  · have hjl : j < l.length := by omega
    have hg := List.getElem?_eq_getElem hjl
    have htk : l.take (j + 1) = l.take j ++ [l[j]] := by rw [List.take_add_one, List.getElem?_eq_getElem hjl]; rfl
    have hmem := List.getElem_mem hjl
    generalize l[j] = x at hg htk hmem
    have h0 : (0 : Int) ≤ (j : Int) := by omega
    have h1 : (j : Int) < (l.length : Int) := by omega
    have zj : decide (j < l.length) = true := decide_eq_true hjl
    have wj := wS (show j < 9223372036854775807 by omega)
    have hql : (q.area i).length ≤ 1000000 := by
      rw [hq]
      have := puts_len i (l.take j) p
      rw [List.length_take] at this
      omega
    have hq2 := puts_take p i hg
    rw [← hq] at hq2
    (repeat' with_reducible first |apply qA|apply qB|apply qC|apply qD|apply qE|apply qF|(apply qG;decide)|apply qH|apply qI|apply qJ|apply qK|((first|apply qL|apply qM|apply qN|apply qO|((first|apply qP|apply qQ);decide +kernel));(conv=>lhs;simp only[go_sem, ibin, ishift, hg, hjl, c8, h0, h1, zj, wj])<;>rfl)|((first|apply qR|apply qS);(conv=>lhs;simp only[go_sem])<;>rfl;rfl)|((first|apply qT|apply qU);(conv=>lhs;simp only[go_sem])<;>rfl;rfl)|apply qV|apply qW|apply qX|apply qY|apply qZ)
    (with_reducible((first|apply pA|apply pB|apply pC|apply pD|apply pE|((first|apply pF|apply pG);decide +kernel));(conv=>lhs;simp only[go_sem, ibin, ishift])<;>rfl))
    refine CK_call [0, 3, 4, 5, 1, 2] (unit_put c q i x hql) (by decide) (by simp) rfl rfl (by first | rfl | (simp only [go_sem, Tp.h3, Tp.o, boxT, boxI, box8]; done) | (simp only [go_sem, Tp.h3, Tp.o, boxT, boxI, box8] <;> rfl)) ?_
    rintro v h' ⟨rfl, rfl⟩
    rw [← hq2]
    unfold Tp.h3 Tp.o boxT boxI box8
    (with_reducible((first|apply WO2_finw|apply WO2_fina);(conv=>lhs;simp only[go_sem, ibin, ishift])<;>rfl))
    (repeat' with_reducible first |apply qA|apply qB|apply qC|apply qD|apply qE|apply qF|(apply qG;decide)|apply qH|apply qI|apply qJ|apply qK|((first|apply qL|apply qM|apply qN|apply qO|((first|apply qP|apply qQ);decide +kernel));(conv=>lhs;simp only[go_sem, ibin, ishift, wj])<;>rfl)|((first|apply qR|apply qS);(conv=>lhs;simp only[go_sem])<;>rfl;rfl)|((first|apply qT|apply qU);(conv=>lhs;simp only[go_sem])<;>rfl;rfl)|apply qV|apply qW|apply qX|apply qY|apply qZ)
    refine ⟨[0, 1, 2, 3, 4], by decide, rfl, ?_⟩
    exact ⟨l.length - (j + 1), _, _, by omega, ⟨j + 1, _, by omega, rfl, rfl, rfl⟩, rfl, (by first | rfl | ((conv => lhs; simp only [go_sem, ibin, ishift]) <;> rfl))⟩
  have hje : j = l.length := by omega
  subst hje
  have zj : decide (l.length < l.length) = false := decide_eq_false (by omega)
  rw [List.take_length] at hq
  subst hq
  (repeat' with_reducible first |apply qA|apply qB|apply qC|apply qD|apply qE|apply qF|(apply qG;decide)|apply qH|apply qI|apply qJ|apply qK|((first|apply qL|apply qM|apply qN|apply qO|((first|apply qP|apply qQ);decide +kernel));(conv=>lhs;simp only[go_sem, ibin, ishift, zj])<;>rfl)|((first|apply qR|apply qS);(conv=>lhs;simp only[go_sem])<;>rfl;rfl)|((first|apply qT|apply qU);(conv=>lhs;simp only[go_sem])<;>rfl;rfl)|apply qV|apply qW|apply qX|apply qY|apply qZ)
  show (_ ∨ _) ∧ _
  refine ⟨by first | exact .inr rfl | exact .inl rfl, _, _, (by (conv => lhs; simp only [go_sem, ibin, ishift]) <;> with_reducible rfl), (by (conv => lhs; simp only [go_sem, ibin, ishift]) <;> with_reducible rfl), ?_⟩
  refine ⟨[0, 1, 2], by decide, rfl, ?_⟩
  exact ⟨rfl, rfl⟩
def Tp.cut (p : Tp) (i : Bool) (n : Nat) : Tp := if n < (p.area i).length then p.unit fun q => q.put1 i ((q.area i).take n) else p
theorem cut_spec (c : TabT T) (p : Tp) (i : Bool) (n : Nat) (hl : (p.area i).length ≤ 1000000) : Ret2 T 1 i_tape_Tape_cut [.ptr 0 0, .i .i64 (ci i), .i .i64 n] p.h (fun v h' => v = .tup [] ∧ h' = (p.cut i n).h) := by
  refine Ret2_fnv c.cut rfl rfl ?_
  unfold Tp.cut
  by_cases hn : n < (p.area i).length
  · rw [if_pos hn]
    have huc := unit_cut c p i n hl (Nat.le_of_lt hn)
    unfold Tp.h Tp.o
    cases i with
    | false =>
      have z1 : decide (n < p.a.length) = true := decide_eq_true (hn)
      rw [show ci false = 0 from rfl]
      (repeat' with_reducible first |apply qA|apply qB|apply qC|apply qD|apply qE|apply qF|(apply qG;decide)|apply qH|apply qI|apply qJ|apply qK|((first|apply qL|apply qM|apply qN|apply qO|((first|apply qP|apply qQ);decide +kernel));(conv=>lhs;simp only[go_sem, ibin, ishift, z1])<;>rfl)|((first|apply qR|apply qS);(conv=>lhs;simp only[go_sem])<;>rfl;rfl)|((first|apply qT|apply qU);(conv=>lhs;simp only[go_sem])<;>rfl;rfl)|apply qV|apply qW|apply qX|apply qY|apply qZ)
      (with_reducible((first|apply pA|apply pB|apply pC|apply pD|apply pE|((first|apply pF|apply pG);decide +kernel));(conv=>lhs;simp only[go_sem, ibin, ishift])<;>rfl))
      refine CK_call [0, 3, 4, 5, 1, 2] huc (by decide) (by simp) rfl rfl (by first | rfl | (simp only [go_sem, Tp.h3, Tp.o, boxT, boxI, boxN]; done) | (simp only [go_sem, Tp.h3, Tp.o, boxT, boxI, boxN] <;> rfl)) ?_
      rintro v h' ⟨rfl, rfl⟩
      unfold Tp.h3 Tp.o boxT boxI boxN
      (with_reducible((first|apply pA|apply pB|apply pC|apply pD|apply pE|((first|apply pF|apply pG);decide +kernel));(conv=>lhs;simp only[go_sem, ibin, ishift])<;>rfl))
      show (_ ∨ _) ∧ _
      refine ⟨by first | exact .inr rfl | exact .inl rfl, _, _, (by (conv => lhs; simp only [go_sem, ibin, ishift]) <;> with_reducible rfl), (by (conv => lhs; simp only [go_sem, ibin, ishift]) <;> with_reducible rfl), ?_⟩
      refine ⟨[0, 1, 2], by decide, rfl, ?_⟩
      exact ⟨rfl, rfl⟩
    | true =>
      have z1 : decide (n < p.b.length) = true := decide_eq_true (hn)
      rw [show ci true = 1 from rfl]
      (repeat' with_reducible first |apply qA|apply qB|apply qC|apply qD|apply qE|apply qF|(apply qG;decide)|apply qH|apply qI|apply qJ|apply qK|((first|apply qL|apply qM|apply qN|apply qO|((first|apply qP|apply qQ);decide +kernel));(conv=>lhs;simp only[go_sem, ibin, ishift, z1])<;>rfl)|((first|apply qR|apply qS);(conv=>lhs;simp only[go_sem])<;>rfl;rfl)|((first|apply qT|apply qU);(conv=>lhs;simp only[go_sem])<;>rfl;rfl)|apply qV|apply qW|apply qX|apply qY|apply qZ)
      (with_reducible((first|apply pA|apply pB|apply pC|apply pD|apply pE|((first|apply pF|apply pG);decide +kernel));(conv=>lhs;simp only[go_sem, ibin, ishift])<;>rfl))
      refine CK_call [0, 3, 4, 5, 1, 2] huc (by decide) (by simp) rfl rfl (by first | rfl | (simp only [go_sem, Tp.h3, Tp.o, boxT, boxI, boxN]; done) | (simp only [go_sem, Tp.h3, Tp.o, boxT, boxI, boxN] <;> rfl)) ?_
      rintro v h' ⟨rfl, rfl⟩
      unfold Tp.h3 Tp.o boxT boxI boxN
      (with_reducible((first|apply pA|apply pB|apply pC|apply pD|apply pE|((first|apply pF|apply pG);decide +kernel));(conv=>lhs;simp only[go_sem, ibin, ishift])<;>rfl))
      show (_ ∨ _) ∧ _
      refine ⟨by first | exact .inr rfl | exact .inl rfl, _, _, (by (conv => lhs; simp only [go_sem, ibin, ishift]) <;> with_reducible rfl), (by (conv => lhs; simp only [go_sem, ibin, ishift]) <;> with_reducible rfl), ?_⟩
      refine ⟨[0, 1, 2], by decide, rfl, ?_⟩
      exact ⟨rfl, rfl⟩
  · rw [if_neg hn]
    unfold Tp.h Tp.o
    cases i with
    | false =>
      have z1 : decide (n < p.a.length) = false := decide_eq_false (hn)
      rw [show ci false = 0 from rfl]
      (repeat' with_reducible first |apply qA|apply qB|apply qC|apply qD|apply qE|apply qF|(apply qG;decide)|apply qH|apply qI|apply qJ|apply qK|((first|apply qL|apply qM|apply qN|apply qO|((first|apply qP|apply qQ);decide +kernel));(conv=>lhs;simp only[go_sem, ibin, ishift, z1])<;>rfl)|((first|apply qR|apply qS);(conv=>lhs;simp only[go_sem])<;>rfl;rfl)|((first|apply qT|apply qU);(conv=>lhs;simp only[go_sem])<;>rfl;rfl)|apply qV|apply qW|apply qX|apply qY|apply qZ)
      show (_ ∨ _) ∧ _
      refine ⟨by first | exact .inr rfl | exact .inl rfl, _, _, (by (conv => lhs; simp only [go_sem, ibin, ishift]) <;> with_reducible rfl), (by (conv => lhs; simp only [go_sem, ibin, ishift]) <;> with_reducible rfl), ?_⟩
      refine ⟨[0, 1, 2], by decide, rfl, ?_⟩
      exact ⟨rfl, rfl⟩
    | true =>
      have z1 : decide (n < p.b.length) = false := decide_eq_false (hn)
      rw [show ci true = 1 from rfl]
      (repeat' with_reducible first |apply qA|apply qB|apply qC|apply qD|apply qE|apply qF|(apply qG;decide)|apply qH|apply qI|apply qJ|apply qK|((first|apply qL|apply qM|apply qN|apply qO|((first|apply qP|apply qQ);decide +kernel));(conv=>lhs;simp only[go_sem, ibin, ishift, z1])<;>rfl)|((first|apply qR|apply qS);(conv=>lhs;simp only[go_sem])<;>rfl;rfl)|((first|apply qT|apply qU);(conv=>lhs;simp only[go_sem])<;>rfl;rfl)|apply qV|apply qW|apply qX|apply qY|apply qZ)
      show (_ ∨ _) ∧ _
      refine ⟨by first | exact .inr rfl | exact .inl rfl, _, _, (by (conv => lhs; simp only [go_sem, ibin, ishift]) <;> with_reducible rfl), (by (conv => lhs; simp only [go_sem, ibin, ishift]) <;> with_reducible rfl), ?_⟩
      refine ⟨[0, 1, 2], by decide, rfl, ?_⟩
      exact ⟨rfl, rfl⟩
end Go.Proofs.Ytfmkomjflhifnaa.Ab
