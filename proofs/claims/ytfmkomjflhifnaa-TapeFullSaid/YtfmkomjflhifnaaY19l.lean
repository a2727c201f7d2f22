/- Chapter 19: the tape: what is read, appended, compacted, repaired. -/
import Derived.Test.YtfmkomjflhifnaaY19k
namespace Go.Proofs.Ytfmkomjflhifnaa.Ab
open Go
set_option linter.unusedVariables false
set_option linter.unusedSimpArgs false
variable {T : AT}
theorem flatN (l : List Nt) : SH.flat [some (.arr 4 (l.map cN))] := fun b hb => by
  simp only [List.mem_singleton, Option.some.injEq] at hb
  subst hb
  intro el hel c hc
  obtain ⟨x, _, rfl⟩ := List.mem_map.1 hel
  simp only [cN, List.mem_cons, List.not_mem_nil, or_false] at hc
  rcases hc with rfl | rfl | rfl | rfl <;> rfl
def Tp.now (p : Tp) : List UInt8 := p.area p.c
theorem size_spec (c : TabT T) (p : Tp) : Ret2 T 3 i_tape_Tape_Size [.ptr 0 0] p.h (fun v h' => v = .i .i64 p.now.length ∧ h' = p.h) := by
  refine Ret2_fnv c.size rfl rfl ?_
  obtain ⟨a, b, cc, armed, bud, dead⟩ := p
  unfold Tp.h Tp.o Tp.now
  cases cc with
  | false =>
    simp only [ci]
    (repeat' with_reducible first |apply qA|apply qB|apply qC|apply qD|apply qE|apply qF|(apply qG;decide)|apply qH|apply qI|apply qJ|apply qK|((first|apply qL|apply qM|apply qN|apply qO|((first|apply qP|apply qQ);decide +kernel));(conv=>lhs;simp only[go_sem, ibin, ishift])<;>rfl)|((first|apply qR|apply qS);(conv=>lhs;simp only[go_sem])<;>rfl;rfl)|((first|apply qT|apply qU);(conv=>lhs;simp only[go_sem])<;>rfl;rfl)|apply qV|apply qW|apply qX|apply qY|apply qZ)
    refine ⟨by first | exact .inr rfl | exact .inl rfl, _, _, (by (conv => lhs; simp only [go_sem, ibin, ishift]) <;> with_reducible rfl), (by (conv => lhs; simp only [go_sem, ibin, ishift]) <;> with_reducible rfl), ?_⟩
    refine ⟨[0, 1, 2], by decide, rfl, ?_⟩
    exact ⟨rfl, rfl⟩
  | true =>
    simp only [ci]
    (repeat' with_reducible first |apply qA|apply qB|apply qC|apply qD|apply qE|apply qF|(apply qG;decide)|apply qH|apply qI|apply qJ|apply qK|((first|apply qL|apply qM|apply qN|apply qO|((first|apply qP|apply qQ);decide +kernel));(conv=>lhs;simp only[go_sem, ibin, ishift])<;>rfl)|((first|apply qR|apply qS);(conv=>lhs;simp only[go_sem])<;>rfl;rfl)|((first|apply qT|apply qU);(conv=>lhs;simp only[go_sem])<;>rfl;rfl)|apply qV|apply qW|apply qX|apply qY|apply qZ)
    refine ⟨by first | exact .inr rfl | exact .inl rfl, _, _, (by (conv => lhs; simp only [go_sem, ibin, ishift]) <;> with_reducible rfl), (by (conv => lhs; simp only [go_sem, ibin, ishift]) <;> with_reducible rfl), ?_⟩
    refine ⟨[0, 1, 2], by decide, rfl, ?_⟩
    exact ⟨rfl, rfl⟩
def Tp.st (p : Tp) : Int := if p.dead = true then 190 else 0
theorem state_spec (c : TabT T) (p : Tp) : Ret2 T 3 i_tape_Tape_state [.ptr 0 0] p.h (fun v h' => v = .i .i64 p.st ∧ h' = p.h) := by
  refine Ret2_fnv c.state rfl rfl ?_
  obtain ⟨a, b, cc, armed, bud, dead⟩ := p
  unfold Tp.h Tp.o Tp.st
  cases dead with
  | false =>
    (repeat' with_reducible first |apply qA|apply qB|apply qC|apply qD|apply qE|apply qF|(apply qG;decide)|apply qH|apply qI|apply qJ|apply qK|((first|apply qL|apply qM|apply qN|apply qO|((first|apply qP|apply qQ);decide +kernel));(conv=>lhs;simp only[go_sem, ibin, ishift])<;>rfl)|((first|apply qR|apply qS);(conv=>lhs;simp only[go_sem])<;>rfl;rfl)|((first|apply qT|apply qU);(conv=>lhs;simp only[go_sem])<;>rfl;rfl)|apply qV|apply qW|apply qX|apply qY|apply qZ)
    refine ⟨by first | exact .inr rfl | exact .inl rfl, _, _, (by (conv => lhs; simp only [go_sem, ibin, ishift]) <;> with_reducible rfl), (by (conv => lhs; simp only [go_sem, ibin, ishift]) <;> with_reducible rfl), ?_⟩
    refine ⟨[0, 1, 2], by decide, rfl, ?_⟩
    exact ⟨rfl, rfl⟩
  | true =>
    (repeat' with_reducible first |apply qA|apply qB|apply qC|apply qD|apply qE|apply qF|(apply qG;decide)|apply qH|apply qI|apply qJ|apply qK|((first|apply qL|apply qM|apply qN|apply qO|((first|apply qP|apply qQ);decide +kernel));(conv=>lhs;simp only[go_sem, ibin, ishift])<;>rfl)|((first|apply qR|apply qS);(conv=>lhs;simp only[go_sem])<;>rfl;rfl)|((first|apply qT|apply qU);(conv=>lhs;simp only[go_sem])<;>rfl;rfl)|apply qV|apply qW|apply qX|apply qY|apply qZ)
    refine ⟨by first | exact .inr rfl | exact .inl rfl, _, _, (by (conv => lhs; simp only [go_sem, ibin, ishift]) <;> with_reducible rfl), (by (conv => lhs; simp only [go_sem, ibin, ishift]) <;> with_reducible rfl), ?_⟩
    refine ⟨[0, 1, 2], by decide, rfl, ?_⟩
    exact ⟨rfl, rfl⟩
theorem good_spec (c : TabT T) (p : Tp) (g : List Nt) (hg : ReadR p.now g) (hl : p.now.length ≤ 1000000) : Ret2 T 3 i_tape_Tape_good [.ptr 0 0] p.h (fun v h' => v = .i .i64 (encsB g).length ∧ h' = p.h) := by
  refine Ret2_fnv c.good rfl rfl ?_
  obtain ⟨a, b, cc, armed, bud, dead⟩ := p
  unfold Tp.h Tp.o
  unfold Tp.now at hg hl
  cases cc with
  | false =>
    simp only [ci]
    simp only [Tp.area] at hl hg ⊢
    (repeat' with_reducible first |apply qA|apply qB|apply qC|apply qD|apply qE|apply qF|(apply qG;decide)|apply qH|apply qI|apply qJ|apply qK|((first|apply qL|apply qM|apply qN|apply qO|((first|apply qP|apply qQ);decide +kernel));(conv=>lhs;simp only[go_sem, ibin, ishift])<;>rfl)|((first|apply qR|apply qS);(conv=>lhs;simp only[go_sem])<;>rfl;rfl)|((first|apply qT|apply qU);(conv=>lhs;simp only[go_sem])<;>rfl;rfl)|apply qV|apply qW|apply qX|apply qY|apply qZ)
    (with_reducible((first|apply pA|apply pB|apply pC|apply pD|apply pE|((first|apply pF|apply pG);decide +kernel));(conv=>lhs;simp only[go_sem, ibin, ishift])<;>rfl))
    refine CK_lend [1] (read_spec c.toTabN _ hl) rfl (by first | rfl | (simp only [go_sem, c8]; done) | (simp only [go_sem, c8] <;> rfl)) ?_
    rintro v h' ⟨l, hl2, rfl, rfl⟩
    obtain rfl := read_unique hg hl2
    refine ⟨rfl, flatN _, ?_⟩
    (with_reducible((first|apply WO2_finw|apply WO2_fina);(conv=>lhs;simp only[go_sem, ibin, ishift])<;>rfl))
    (repeat' with_reducible first |apply qA|apply qB|apply qC|apply qD|apply qE|apply qF|(apply qG;decide)|apply qH|apply qI|apply qJ|apply qK|((first|apply qL|apply qM|apply qN|apply qO|((first|apply qP|apply qQ);decide +kernel));(conv=>lhs;simp only[go_sem, ibin, ishift])<;>rfl)|((first|apply qR|apply qS);(conv=>lhs;simp only[go_sem])<;>rfl;rfl)|((first|apply qT|apply qU);(conv=>lhs;simp only[go_sem])<;>rfl;rfl)|apply qV|apply qW|apply qX|apply qY|apply qZ)
    refine ⟨by first | exact .inr rfl | exact .inl rfl, _, _, (by (conv => lhs; simp only [go_sem, ibin, ishift]) <;> with_reducible rfl), (by (conv => lhs; simp only [go_sem, ibin, ishift]) <;> with_reducible rfl), ?_⟩
    refine ⟨[0, 1, 2], by decide, rfl, ?_⟩
    exact ⟨rfl, rfl⟩
  | true =>
    simp only [ci]
    simp only [Tp.area] at hl hg ⊢
    (repeat' with_reducible first |apply qA|apply qB|apply qC|apply qD|apply qE|apply qF|(apply qG;decide)|apply qH|apply qI|apply qJ|apply qK|((first|apply qL|apply qM|apply qN|apply qO|((first|apply qP|apply qQ);decide +kernel));(conv=>lhs;simp only[go_sem, ibin, ishift])<;>rfl)|((first|apply qR|apply qS);(conv=>lhs;simp only[go_sem])<;>rfl;rfl)|((first|apply qT|apply qU);(conv=>lhs;simp only[go_sem])<;>rfl;rfl)|apply qV|apply qW|apply qX|apply qY|apply qZ)
    (with_reducible((first|apply pA|apply pB|apply pC|apply pD|apply pE|((first|apply pF|apply pG);decide +kernel));(conv=>lhs;simp only[go_sem, ibin, ishift])<;>rfl))
    refine CK_lend [2] (read_spec c.toTabN _ hl) rfl (by first | rfl | (simp only [go_sem, c8]; done) | (simp only [go_sem, c8] <;> rfl)) ?_
    rintro v h' ⟨l, hl2, rfl, rfl⟩
    obtain rfl := read_unique hg hl2
    refine ⟨rfl, flatN _, ?_⟩
    (with_reducible((first|apply WO2_finw|apply WO2_fina);(conv=>lhs;simp only[go_sem, ibin, ishift])<;>rfl))
    (repeat' with_reducible first |apply qA|apply qB|apply qC|apply qD|apply qE|apply qF|(apply qG;decide)|apply qH|apply qI|apply qJ|apply qK|((first|apply qL|apply qM|apply qN|apply qO|((first|apply qP|apply qQ);decide +kernel));(conv=>lhs;simp only[go_sem, ibin, ishift])<;>rfl)|((first|apply qR|apply qS);(conv=>lhs;simp only[go_sem])<;>rfl;rfl)|((first|apply qT|apply qU);(conv=>lhs;simp only[go_sem])<;>rfl;rfl)|apply qV|apply qW|apply qX|apply qY|apply qZ)
    refine ⟨by first | exact .inr rfl | exact .inl rfl, _, _, (by (conv => lhs; simp only [go_sem, ibin, ishift]) <;> with_reducible rfl), (by (conv => lhs; simp only [go_sem, ibin, ishift]) <;> with_reducible rfl), ?_⟩
    refine ⟨[0, 1, 2], by decide, rfl, ?_⟩
    exact ⟨rfl, rfl⟩
theorem tread_spec (c : TabT T) (p : Tp) (g : List Nt) (hg : ReadR p.now g) (hl : p.now.length ≤ 1000000) : Ret2 T 3 i_tape_Tape_Read [.ptr 0 0] p.h (fun v h' => v = .sl 4 3 0 g.length none ∧ h' = p.h ++ [some (.arr 4 (g.map cN))]) := by
  refine Ret2_fnv c.read_ rfl rfl ?_
  obtain ⟨a, b, cc, armed, bud, dead⟩ := p
  unfold Tp.h Tp.o
  unfold Tp.now at hg hl
  cases cc with
  | false =>
    simp only [ci]
    simp only [Tp.area] at hl hg ⊢
    (repeat' with_reducible first |apply qA|apply qB|apply qC|apply qD|apply qE|apply qF|(apply qG;decide)|apply qH|apply qI|apply qJ|apply qK|((first|apply qL|apply qM|apply qN|apply qO|((first|apply qP|apply qQ);decide +kernel));(conv=>lhs;simp only[go_sem, ibin, ishift])<;>rfl)|((first|apply qR|apply qS);(conv=>lhs;simp only[go_sem])<;>rfl;rfl)|((first|apply qT|apply qU);(conv=>lhs;simp only[go_sem])<;>rfl;rfl)|apply qV|apply qW|apply qX|apply qY|apply qZ)
    (with_reducible((first|apply pA|apply pB|apply pC|apply pD|apply pE|((first|apply pF|apply pG);decide +kernel));(conv=>lhs;simp only[go_sem, ibin, ishift])<;>rfl))
    refine CK_lend [1] (read_spec c.toTabN _ hl) rfl (by first | rfl | (simp only [go_sem, c8]; done) | (simp only [go_sem, c8] <;> rfl)) ?_
    rintro v h' ⟨l, hl2, rfl, rfl⟩
    obtain rfl := read_unique hg hl2
    refine ⟨rfl, flatN _, ?_⟩
    (with_reducible((first|apply WO2_finw|apply WO2_fina);(conv=>lhs;simp only[go_sem, ibin, ishift])<;>rfl))
    (repeat' with_reducible first |apply qA|apply qB|apply qC|apply qD|apply qE|apply qF|(apply qG;decide)|apply qH|apply qI|apply qJ|apply qK|((first|apply qL|apply qM|apply qN|apply qO|((first|apply qP|apply qQ);decide +kernel));(conv=>lhs;simp only[go_sem, ibin, ishift])<;>rfl)|((first|apply qR|apply qS);(conv=>lhs;simp only[go_sem])<;>rfl;rfl)|((first|apply qT|apply qU);(conv=>lhs;simp only[go_sem])<;>rfl;rfl)|apply qV|apply qW|apply qX|apply qY|apply qZ)
    refine ⟨by first | exact .inr rfl | exact .inl rfl, _, _, (by (conv => lhs; simp only [go_sem, ibin, ishift]) <;> with_reducible rfl), (by (conv => lhs; simp only [go_sem, ibin, ishift]) <;> with_reducible rfl), ?_⟩
    refine ⟨[0, 1, 2, 3], by decide, rfl, ?_⟩
    exact ⟨rfl, rfl⟩
  | true =>
    simp only [ci]
    simp only [Tp.area] at hl hg ⊢
    (repeat' with_reducible first |apply qA|apply qB|apply qC|apply qD|apply qE|apply qF|(apply qG;decide)|apply qH|apply qI|apply qJ|apply qK|((first|apply qL|apply qM|apply qN|apply qO|((first|apply qP|apply qQ);decide +kernel));(conv=>lhs;simp only[go_sem, ibin, ishift])<;>rfl)|((first|apply qR|apply qS);(conv=>lhs;simp only[go_sem])<;>rfl;rfl)|((first|apply qT|apply qU);(conv=>lhs;simp only[go_sem])<;>rfl;rfl)|apply qV|apply qW|apply qX|apply qY|apply qZ)
    (with_reducible((first|apply pA|apply pB|apply pC|apply pD|apply pE|((first|apply pF|apply pG);decide +kernel));(conv=>lhs;simp only[go_sem, ibin, ishift])<;>rfl))
    refine CK_lend [2] (read_spec c.toTabN _ hl) rfl (by first | rfl | (simp only [go_sem, c8]; done) | (simp only [go_sem, c8] <;> rfl)) ?_
    rintro v h' ⟨l, hl2, rfl, rfl⟩
    obtain rfl := read_unique hg hl2
    refine ⟨rfl, flatN _, ?_⟩
    (with_reducible((first|apply WO2_finw|apply WO2_fina);(conv=>lhs;simp only[go_sem, ibin, ishift])<;>rfl))
    (repeat' with_reducible first |apply qA|apply qB|apply qC|apply qD|apply qE|apply qF|(apply qG;decide)|apply qH|apply qI|apply qJ|apply qK|((first|apply qL|apply qM|apply qN|apply qO|((first|apply qP|apply qQ);decide +kernel));(conv=>lhs;simp only[go_sem, ibin, ishift])<;>rfl)|((first|apply qR|apply qS);(conv=>lhs;simp only[go_sem])<;>rfl;rfl)|((first|apply qT|apply qU);(conv=>lhs;simp only[go_sem])<;>rfl;rfl)|apply qV|apply qW|apply qX|apply qY|apply qZ)
    refine ⟨by first | exact .inr rfl | exact .inl rfl, _, _, (by (conv => lhs; simp only [go_sem, ibin, ishift]) <;> with_reducible rfl), (by (conv => lhs; simp only [go_sem, ibin, ishift]) <;> with_reducible rfl), ?_⟩
    refine ⟨[0, 1, 2, 3], by decide, rfl, ?_⟩
    exact ⟨rfl, rfl⟩
theorem readR_ex (b : List UInt8) : ∃ g, ReadR b g := by
  generalize hk : b.length = k
  induction k using Nat.strongRecOn generalizing b with
  | _ k ih =>
    by_cases h : ∃ n, goodN n ∧ encB n <+: b
    · obtain ⟨n, hn, hp⟩ := h
      have h4 := (encB_le hn).2
      have hle := hp.length_le
      obtain ⟨g, h1, h2, h3⟩ := ih (b.drop (encB n).length).length (by rw [List.length_drop]; omega) _ rfl
      refine ⟨n :: g, fun m hm => ?_, ?_, fun m hm hq => ?_⟩
      · rcases List.mem_cons.1 hm with rfl | hm
        · exact hn
        · exact h1 m hm
      · rw [encs_cons]
        obtain ⟨r, rfl⟩ := hp
        rw [List.drop_left] at h2
        exact List.prefix_append_right_inj _ |>.2 h2
      · refine h3 m hm ?_
        rw [encs_cons, List.length_append, ← List.drop_drop] at hq
        exact hq
    · exact ⟨[], by simp, List.nil_prefix, fun n hn hp => h ⟨n, hn, by simpa [encsB] using hp⟩⟩
def Tp.append (p : Tp) (n : Nat) (l : List Nt) : Tp × Int :=
  if p.dead = true then (p, 190) else if ¬(∀ x ∈ l, goodN x) then (p, 180) else if n < p.now.length then (p, 140) else if 65536 < p.now.length + (encsB l).length then (p, 5) else (p.puts p.c (encsB l), (p.puts p.c (encsB l)).st)
theorem flat8 (l : List UInt8) : SH.flat [some (.arr 1 (l.map c8))] := fun b hb => by
  simp only [List.mem_singleton, Option.some.injEq] at hb
  subst hb
  intro el hel c hc
  obtain ⟨x, _, rfl⟩ := List.mem_map.1 hel
  simp only [c8, List.mem_singleton] at hc
  subst hc; rfl
/-- a tape, and notes that are handed in -/
def Tp.hn (p : Tp) (l : List Nt) : SH := [p.o 2 3, some (.arr 4 (l.map cN)), some (.arr 1 (p.a.map c8)), some (.arr 1 (p.b.map c8))]
theorem append_spec (c : TabT T) (p : Tp) (g : List Nt) (hg : ReadR p.now g) (hl : p.now.length ≤ 100000) (l : List Nt) (hll : l.length ≤ 40000) : Ret2 T 1 i_tape_Tape_Append [.ptr 0 0, .fz 4 (l.map cN)] p.h (fun v h' => v = .i .i64 (p.append (encsB g).length l).2 ∧ h' = (p.append (encsB g).length l).1.h) := by
  refine Ret2_fnv c.append rfl rfl ?_
  have hgs := good_spec c p g hg (by omega)
  have hss := size_spec c p
  unfold Tp.append
  by_cases hd : p.dead = true
  · rw [if_pos hd]
    unfold Tp.h Tp.o
    rw [hd]
    (repeat' with_reducible first |apply qA|apply qB|apply qC|apply qD|apply qE|apply qF|(apply qG;decide)|apply qH|apply qI|apply qJ|apply qK|((first|apply qL|apply qM|apply qN|apply qO|((first|apply qP|apply qQ);decide +kernel));(conv=>lhs;simp only[go_sem, ibin, ishift])<;>rfl)|((first|apply qR|apply qS);(conv=>lhs;simp only[go_sem])<;>rfl;rfl)|((first|apply qT|apply qU);(conv=>lhs;simp only[go_sem])<;>rfl;rfl)|apply qV|apply qW|apply qX|apply qY|apply qZ)
    refine ⟨by first | exact .inr rfl | exact .inl rfl, _, _, (by (conv => lhs; simp only [go_sem, ibin, ishift]) <;> with_reducible rfl), (by (conv => lhs; simp only [go_sem, ibin, ishift]) <;> with_reducible rfl), ?_⟩
    refine ⟨[0, 1, 2], by decide, rfl, ?_⟩
    exact ⟨rfl, rfl⟩
  simp only [Bool.not_eq_true] at hd
  rw [if_neg (by rw [hd]; decide)]
  have hh : p.h = [some (.obj [.sl 1 1 0 p.a.length none, .sl 1 2 0 p.b.length none, .i .i64 (ci p.c), .b p.armed, .i .i64 p.bud, .b false]), some (.arr 1 (p.a.map c8)), some (.arr 1 (p.b.map c8))] := by rw [Tp.h, Tp.o, hd]
  rw [hh] at hgs hss
  unfold Tp.h Tp.o
  rw [hd]
  (repeat' with_reducible first |apply qA|apply qB|apply qC|apply qD|apply qE|apply qF|(apply qG;decide)|apply qH|apply qI|apply qJ|apply qK|((first|apply qL|apply qM|apply qN|apply qO|((first|apply qP|apply qQ);decide +kernel));(conv=>lhs;simp only[go_sem, ibin, ishift])<;>rfl)|((first|apply qR|apply qS);(conv=>lhs;simp only[go_sem])<;>rfl;rfl)|((first|apply qT|apply qU);(conv=>lhs;simp only[go_sem])<;>rfl;rfl)|apply qV|apply qW|apply qX|apply qY|apply qZ)
  (with_reducible((first|apply pA|apply pB|apply pC|apply pD|apply pE|((first|apply pF|apply pG);decide +kernel));(conv=>lhs;simp only[go_sem, ibin, ishift])<;>rfl))
  refine CK_pure (write_spec c.toTabN l (by omega)) rfl ?_
  rintro v h' ⟨hw1, hw2⟩
  by_cases hgd : ∀ x ∈ l, goodN x
  rotate_left
  · obtain ⟨rfl, rfl⟩ := hw2 hgd
    skip
    rw [if_pos hgd]
    (with_reducible((first|apply WO2_finw|apply WO2_fina);(conv=>lhs;simp only[go_sem, ibin, ishift])<;>rfl))
    (repeat' with_reducible first |apply qA|apply qB|apply qC|apply qD|apply qE|apply qF|(apply qG;decide)|apply qH|apply qI|apply qJ|apply qK|((first|apply qL|apply qM|apply qN|apply qO|((first|apply qP|apply qQ);decide +kernel));(conv=>lhs;simp only[go_sem, ibin, ishift])<;>rfl)|((first|apply qR|apply qS);(conv=>lhs;simp only[go_sem])<;>rfl;rfl)|((first|apply qT|apply qU);(conv=>lhs;simp only[go_sem])<;>rfl;rfl)|apply qV|apply qW|apply qX|apply qY|apply qZ)
    refine ⟨by first | exact .inr rfl | exact .inl rfl, _, _, (by (conv => lhs; simp only [go_sem, ibin, ishift]) <;> with_reducible rfl), (by (conv => lhs; simp only [go_sem, ibin, ishift]) <;> with_reducible rfl), ?_⟩
    refine ⟨[0, 1, 2], by decide, rfl, ?_⟩
    rw [hd]
    exact ⟨rfl, rfl⟩
  obtain ⟨rfl, rfl⟩ := hw1 hgd
  skip
  rw [if_neg (fun h => h hgd)]
  have hel := encsB_le hgd
  have hps := put_spec c p p.c (encsB l) (by unfold Tp.now at hl; omega)
  rw [hh] at hps
  generalize encsB l = bs at hel hps
  (with_reducible((first|apply WO2_finw|apply WO2_fina);(conv=>lhs;simp only[go_sem, ibin, ishift])<;>rfl))
  refine W2.wfrz 3 rfl (by (conv => lhs; simp only [go_sem, ibin, ishift]) <;> with_reducible rfl) (by (conv => lhs; simp only [go_sem, ibin, ishift]) <;> with_reducible rfl) ?_
  (repeat' with_reducible first |apply qA|apply qB|apply qC|apply qD|apply qE|apply qF|(apply qG;decide)|apply qH|apply qI|apply qJ|apply qK|((first|apply qL|apply qM|apply qN|apply qO|((first|apply qP|apply qQ);decide +kernel));(conv=>lhs;simp only[go_sem, ibin, ishift])<;>rfl)|((first|apply qR|apply qS);(conv=>lhs;simp only[go_sem])<;>rfl;rfl)|((first|apply qT|apply qU);(conv=>lhs;simp only[go_sem])<;>rfl;rfl)|apply qV|apply qW|apply qX|apply qY|apply qZ)
  (with_reducible((first|apply pA|apply pB|apply pC|apply pD|apply pE|((first|apply pF|apply pG);decide +kernel));(conv=>lhs;simp only[go_sem, ibin, ishift])<;>rfl))
  refine CK_call [0, 1, 2] hgs (by decide) (by simp) rfl rfl (by first | rfl | (simp only [go_sem, ci]; done) | (simp only [go_sem, ci] <;> rfl)) ?_
  rintro v h' ⟨rfl, rfl⟩
  (with_reducible((first|apply pA|apply pB|apply pC|apply pD|apply pE|((first|apply pF|apply pG);decide +kernel));(conv=>lhs;simp only[go_sem, ibin, ishift])<;>rfl))
  refine CK_call [0, 1, 2] hss (by decide) (by simp) rfl rfl (by first | rfl | (simp only [go_sem, ci]; done) | (simp only [go_sem, ci] <;> rfl)) ?_
  rintro v h' ⟨rfl, rfl⟩
  by_cases h1 : (encsB g).length < p.now.length
  · have z1 : decide ((encsB g).length < p.now.length) = true := decide_eq_true h1
    rw [if_pos h1]
    (with_reducible((first|apply WO2_finw|apply WO2_fina);(conv=>lhs;simp only[go_sem, ibin, ishift, z1])<;>rfl))
    (repeat' with_reducible first |apply qA|apply qB|apply qC|apply qD|apply qE|apply qF|(apply qG;decide)|apply qH|apply qI|apply qJ|apply qK|((first|apply qL|apply qM|apply qN|apply qO|((first|apply qP|apply qQ);decide +kernel));(conv=>lhs;simp only[go_sem, ibin, ishift])<;>rfl)|((first|apply qR|apply qS);(conv=>lhs;simp only[go_sem])<;>rfl;rfl)|((first|apply qT|apply qU);(conv=>lhs;simp only[go_sem])<;>rfl;rfl)|apply qV|apply qW|apply qX|apply qY|apply qZ)
    refine ⟨by first | exact .inr rfl | exact .inl rfl, _, _, (by (conv => lhs; simp only [go_sem, ibin, ishift]) <;> with_reducible rfl), (by (conv => lhs; simp only [go_sem, ibin, ishift]) <;> with_reducible rfl), ?_⟩
    refine ⟨[0, 1, 2], by decide, rfl, ?_⟩
    rw [hd]
    exact ⟨rfl, rfl⟩
  have z1 : decide ((encsB g).length < p.now.length) = false := decide_eq_false h1
  rw [if_neg h1]
  (with_reducible((first|apply WO2_finw|apply WO2_fina);(conv=>lhs;simp only[go_sem, ibin, ishift, z1])<;>rfl))
  (repeat' with_reducible first |apply qA|apply qB|apply qC|apply qD|apply qE|apply qF|(apply qG;decide)|apply qH|apply qI|apply qJ|apply qK|((first|apply qL|apply qM|apply qN|apply qO|((first|apply qP|apply qQ);decide +kernel));(conv=>lhs;simp only[go_sem, ibin, ishift])<;>rfl)|((first|apply qR|apply qS);(conv=>lhs;simp only[go_sem])<;>rfl;rfl)|((first|apply qT|apply qU);(conv=>lhs;simp only[go_sem])<;>rfl;rfl)|apply qV|apply qW|apply qX|apply qY|apply qZ)
  (with_reducible((first|apply pA|apply pB|apply pC|apply pD|apply pE|((first|apply pF|apply pG);decide +kernel));(conv=>lhs;simp only[go_sem, ibin, ishift])<;>rfl))
  refine CK_call [0, 1, 2] hss (by decide) (by simp) rfl rfl (by first | rfl | (simp only [go_sem, ci]; done) | (simp only [go_sem, ci] <;> rfl)) ?_
  rintro v h' ⟨rfl, rfl⟩
  have w1 : IntKind.i64.wrap ((p.now.length : Int) + (bs.length : Int)) = (p.now.length : Int) + (bs.length : Int) := wi _ (by omega) (by omega)
  by_cases h2 : 65536 < p.now.length + bs.length
  · have z2 : decide ((p.now.length : Int) + (bs.length : Int) > 65536) = true := decide_eq_true (by omega)
    rw [if_pos h2]
    (with_reducible((first|apply WO2_finw|apply WO2_fina);(conv=>lhs;simp only[go_sem, ibin, ishift, w1, z2])<;>rfl))
    (repeat' with_reducible first |apply qA|apply qB|apply qC|apply qD|apply qE|apply qF|(apply qG;decide)|apply qH|apply qI|apply qJ|apply qK|((first|apply qL|apply qM|apply qN|apply qO|((first|apply qP|apply qQ);decide +kernel));(conv=>lhs;simp only[go_sem, ibin, ishift])<;>rfl)|((first|apply qR|apply qS);(conv=>lhs;simp only[go_sem])<;>rfl;rfl)|((first|apply qT|apply qU);(conv=>lhs;simp only[go_sem])<;>rfl;rfl)|apply qV|apply qW|apply qX|apply qY|apply qZ)
    refine ⟨by first | exact .inr rfl | exact .inl rfl, _, _, (by (conv => lhs; simp only [go_sem, ibin, ishift]) <;> with_reducible rfl), (by (conv => lhs; simp only [go_sem, ibin, ishift]) <;> with_reducible rfl), ?_⟩
    refine ⟨[0, 1, 2], by decide, rfl, ?_⟩
    rw [hd]
    exact ⟨rfl, rfl⟩
  have z2 : decide ((p.now.length : Int) + (bs.length : Int) > 65536) = false := decide_eq_false (by omega)
  rw [if_neg h2]
  (with_reducible((first|apply WO2_finw|apply WO2_fina);(conv=>lhs;simp only[go_sem, ibin, ishift, w1, z2])<;>rfl))
  (repeat' with_reducible first |apply qA|apply qB|apply qC|apply qD|apply qE|apply qF|(apply qG;decide)|apply qH|apply qI|apply qJ|apply qK|((first|apply qL|apply qM|apply qN|apply qO|((first|apply qP|apply qQ);decide +kernel));(conv=>lhs;simp only[go_sem, ibin, ishift])<;>rfl)|((first|apply qR|apply qS);(conv=>lhs;simp only[go_sem])<;>rfl;rfl)|((first|apply qT|apply qU);(conv=>lhs;simp only[go_sem])<;>rfl;rfl)|apply qV|apply qW|apply qX|apply qY|apply qZ)
  (with_reducible((first|apply pA|apply pB|apply pC|apply pD|apply pE|((first|apply pF|apply pG);decide +kernel));(conv=>lhs;simp only[go_sem, ibin, ishift])<;>rfl))
  refine CK_call [0, 1, 2] hps (by decide) (by simp) rfl rfl (by first | rfl | (simp only [go_sem, ci]; done) | (simp only [go_sem, ci] <;> rfl)) ?_
  rintro v h' ⟨rfl, rfl⟩
  have hst := state_spec c (p.puts p.c bs)
  generalize p.puts p.c bs = q at hst
  unfold Tp.h Tp.o at hst ⊢
  (with_reducible((first|apply WO2_finw|apply WO2_fina);(conv=>lhs;simp only[go_sem, ibin, ishift])<;>rfl))
  (repeat' with_reducible first |apply qA|apply qB|apply qC|apply qD|apply qE|apply qF|(apply qG;decide)|apply qH|apply qI|apply qJ|apply qK|((first|apply qL|apply qM|apply qN|apply qO|((first|apply qP|apply qQ);decide +kernel));(conv=>lhs;simp only[go_sem, ibin, ishift])<;>rfl)|((first|apply qR|apply qS);(conv=>lhs;simp only[go_sem])<;>rfl;rfl)|((first|apply qT|apply qU);(conv=>lhs;simp only[go_sem])<;>rfl;rfl)|apply qV|apply qW|apply qX|apply qY|apply qZ)
  (with_reducible((first|apply pA|apply pB|apply pC|apply pD|apply pE|((first|apply pF|apply pG);decide +kernel));(conv=>lhs;simp only[go_sem, ibin, ishift])<;>rfl))
  refine CK_call [0, 1, 2] hst (by decide) (by simp) rfl rfl (by first | rfl | (simp only [go_sem, ci]; done) | (simp only [go_sem, ci] <;> rfl)) ?_
  rintro v h' ⟨rfl, rfl⟩
  (with_reducible((first|apply WO2_finw|apply WO2_fina);(conv=>lhs;simp only[go_sem, ibin, ishift])<;>rfl))
  (repeat' with_reducible first |apply qA|apply qB|apply qC|apply qD|apply qE|apply qF|(apply qG;decide)|apply qH|apply qI|apply qJ|apply qK|((first|apply qL|apply qM|apply qN|apply qO|((first|apply qP|apply qQ);decide +kernel));(conv=>lhs;simp only[go_sem, ibin, ishift])<;>rfl)|((first|apply qR|apply qS);(conv=>lhs;simp only[go_sem])<;>rfl;rfl)|((first|apply qT|apply qU);(conv=>lhs;simp only[go_sem])<;>rfl;rfl)|apply qV|apply qW|apply qX|apply qY|apply qZ)
  refine ⟨by first | exact .inr rfl | exact .inl rfl, _, _, (by (conv => lhs; simp only [go_sem, ibin, ishift]) <;> with_reducible rfl), (by (conv => lhs; simp only [go_sem, ibin, ishift]) <;> with_reducible rfl), ?_⟩
  refine ⟨[0, 1, 2], by decide, rfl, ?_⟩
  exact ⟨rfl, rfl⟩
theorem appendL_spec (c : TabT T) (p : Tp) (g : List Nt) (hg : ReadR p.now g) (hl : p.now.length ≤ 100000) (l L : List Nt) (cap : Option Nat) (hlL : L.take l.length = l) (hll : l.length ≤ 40000) : Ret2 T 2 i_tape_Tape_Append [.ptr 0 0, .sl 4 1 0 l.length cap] (p.hn L) (fun v h' => v = .i .i64 (p.append (encsB g).length l).2 ∧ h' = (p.append (encsB g).length l).1.hn L) := by
  have hlm : l.length ≤ L.length := by rw [← hlL, List.length_take]; omega
  refine Ret2_fnv c.append rfl rfl ?_
  have hgs := good_spec c p g hg (by omega)
  have hss := size_spec c p
  unfold Tp.append
  by_cases hd : p.dead = true
  · rw [if_pos hd]
    unfold Tp.hn Tp.o
    rw [hd]
    (repeat' with_reducible first |apply qA|apply qB|apply qC|apply qD|apply qE|apply qF|(apply qG;decide)|apply qH|apply qI|apply qJ|apply qK|((first|apply qL|apply qM|apply qN|apply qO|((first|apply qP|apply qQ);decide +kernel));(conv=>lhs;simp only[go_sem, ibin, ishift])<;>rfl)|((first|apply qR|apply qS);(conv=>lhs;simp only[go_sem])<;>rfl;rfl)|((first|apply qT|apply qU);(conv=>lhs;simp only[go_sem])<;>rfl;rfl)|apply qV|apply qW|apply qX|apply qY|apply qZ)
    refine ⟨by first | exact .inr rfl | exact .inl rfl, _, _, (by (conv => lhs; simp only [go_sem, ibin, ishift]) <;> with_reducible rfl), (by (conv => lhs; simp only [go_sem, ibin, ishift]) <;> with_reducible rfl), ?_⟩
    refine ⟨[0, 1, 2, 3], by decide, rfl, ?_⟩
    exact ⟨rfl, rfl⟩
  simp only [Bool.not_eq_true] at hd
  rw [if_neg (by rw [hd]; decide)]
  have hh : p.h = [some (.obj [.sl 1 1 0 p.a.length none, .sl 1 2 0 p.b.length none, .i .i64 (ci p.c), .b p.armed, .i .i64 p.bud, .b false]), some (.arr 1 (p.a.map c8)), some (.arr 1 (p.b.map c8))] := by rw [Tp.h, Tp.o, hd]
  rw [hh] at hgs hss
  unfold Tp.hn Tp.o
  rw [hd]
  (repeat' with_reducible first |apply qA|apply qB|apply qC|apply qD|apply qE|apply qF|(apply qG;decide)|apply qH|apply qI|apply qJ|apply qK|((first|apply qL|apply qM|apply qN|apply qO|((first|apply qP|apply qQ);decide +kernel));(conv=>lhs;simp only[go_sem, ibin, ishift])<;>rfl)|((first|apply qR|apply qS);(conv=>lhs;simp only[go_sem])<;>rfl;rfl)|((first|apply qT|apply qU);(conv=>lhs;simp only[go_sem])<;>rfl;rfl)|apply qV|apply qW|apply qX|apply qY|apply qZ)
  (with_reducible((first|apply pA|apply pB|apply pC|apply pD|apply pE|((first|apply pF|apply pG);decide +kernel));(conv=>lhs;simp only[go_sem, ibin, ishift])<;>rfl))
  refine CK_lend [1] (write_spec c.toTabN l (by omega)) rfl (by first | rfl | (simp only [go_sem, cN, hlL, hlm]; done) | (simp only [go_sem, cN, hlL, hlm] <;> rfl)) ?_
  rintro v h' ⟨hw1, hw2⟩
  by_cases hgd : ∀ x ∈ l, goodN x
  rotate_left
  · obtain ⟨rfl, rfl⟩ := hw2 hgd
    refine ⟨rfl, fun b hb => (by simp at hb), ?_⟩
    rw [if_pos hgd]
    (with_reducible((first|apply WO2_finw|apply WO2_fina);(conv=>lhs;simp only[go_sem, ibin, ishift])<;>rfl))
    (repeat' with_reducible first |apply qA|apply qB|apply qC|apply qD|apply qE|apply qF|(apply qG;decide)|apply qH|apply qI|apply qJ|apply qK|((first|apply qL|apply qM|apply qN|apply qO|((first|apply qP|apply qQ);decide +kernel));(conv=>lhs;simp only[go_sem, ibin, ishift])<;>rfl)|((first|apply qR|apply qS);(conv=>lhs;simp only[go_sem])<;>rfl;rfl)|((first|apply qT|apply qU);(conv=>lhs;simp only[go_sem])<;>rfl;rfl)|apply qV|apply qW|apply qX|apply qY|apply qZ)
    refine ⟨by first | exact .inr rfl | exact .inl rfl, _, _, (by (conv => lhs; simp only [go_sem, ibin, ishift]) <;> with_reducible rfl), (by (conv => lhs; simp only [go_sem, ibin, ishift]) <;> with_reducible rfl), ?_⟩
    refine ⟨[0, 1, 2, 3], by decide, rfl, ?_⟩
    rw [hd]
    exact ⟨rfl, rfl⟩
  obtain ⟨rfl, rfl⟩ := hw1 hgd
  refine ⟨rfl, flat8 _, ?_⟩
  rw [if_neg (fun h => h hgd)]
  have hel := encsB_le hgd
  have hps := put_spec c p p.c (encsB l) (by unfold Tp.now at hl; omega)
  rw [hh] at hps
  generalize encsB l = bs at hel hps
  (with_reducible((first|apply WO2_finw|apply WO2_fina);(conv=>lhs;simp only[go_sem, ibin, ishift])<;>rfl))
  refine W2.wfrz 4 rfl (by (conv => lhs; simp only [go_sem, ibin, ishift]) <;> with_reducible rfl) (by (conv => lhs; simp only [go_sem, ibin, ishift]) <;> with_reducible rfl) ?_
  (repeat' with_reducible first |apply qA|apply qB|apply qC|apply qD|apply qE|apply qF|(apply qG;decide)|apply qH|apply qI|apply qJ|apply qK|((first|apply qL|apply qM|apply qN|apply qO|((first|apply qP|apply qQ);decide +kernel));(conv=>lhs;simp only[go_sem, ibin, ishift])<;>rfl)|((first|apply qR|apply qS);(conv=>lhs;simp only[go_sem])<;>rfl;rfl)|((first|apply qT|apply qU);(conv=>lhs;simp only[go_sem])<;>rfl;rfl)|apply qV|apply qW|apply qX|apply qY|apply qZ)
  (with_reducible((first|apply pA|apply pB|apply pC|apply pD|apply pE|((first|apply pF|apply pG);decide +kernel));(conv=>lhs;simp only[go_sem, ibin, ishift])<;>rfl))
  refine CK_call [0, 2, 3] hgs (by decide) (by simp) rfl rfl (by first | rfl | (simp only [go_sem, ci]; done) | (simp only [go_sem, ci] <;> rfl)) ?_
  rintro v h' ⟨rfl, rfl⟩
  (with_reducible((first|apply pA|apply pB|apply pC|apply pD|apply pE|((first|apply pF|apply pG);decide +kernel));(conv=>lhs;simp only[go_sem, ibin, ishift])<;>rfl))
  refine CK_call [0, 2, 3] hss (by decide) (by simp) rfl rfl (by first | rfl | (simp only [go_sem, ci]; done) | (simp only [go_sem, ci] <;> rfl)) ?_
  rintro v h' ⟨rfl, rfl⟩
  by_cases h1 : (encsB g).length < p.now.length
  · have z1 : decide ((encsB g).length < p.now.length) = true := decide_eq_true h1
    rw [if_pos h1]
    (with_reducible((first|apply WO2_finw|apply WO2_fina);(conv=>lhs;simp only[go_sem, ibin, ishift, z1])<;>rfl))
    (repeat' with_reducible first |apply qA|apply qB|apply qC|apply qD|apply qE|apply qF|(apply qG;decide)|apply qH|apply qI|apply qJ|apply qK|((first|apply qL|apply qM|apply qN|apply qO|((first|apply qP|apply qQ);decide +kernel));(conv=>lhs;simp only[go_sem, ibin, ishift])<;>rfl)|((first|apply qR|apply qS);(conv=>lhs;simp only[go_sem])<;>rfl;rfl)|((first|apply qT|apply qU);(conv=>lhs;simp only[go_sem])<;>rfl;rfl)|apply qV|apply qW|apply qX|apply qY|apply qZ)
    refine ⟨by first | exact .inr rfl | exact .inl rfl, _, _, (by (conv => lhs; simp only [go_sem, ibin, ishift]) <;> with_reducible rfl), (by (conv => lhs; simp only [go_sem, ibin, ishift]) <;> with_reducible rfl), ?_⟩
    refine ⟨[0, 1, 2, 3], by decide, rfl, ?_⟩
    rw [hd]
    exact ⟨rfl, rfl⟩
  have z1 : decide ((encsB g).length < p.now.length) = false := decide_eq_false h1
  rw [if_neg h1]
  (with_reducible((first|apply WO2_finw|apply WO2_fina);(conv=>lhs;simp only[go_sem, ibin, ishift, z1])<;>rfl))
  (repeat' with_reducible first |apply qA|apply qB|apply qC|apply qD|apply qE|apply qF|(apply qG;decide)|apply qH|apply qI|apply qJ|apply qK|((first|apply qL|apply qM|apply qN|apply qO|((first|apply qP|apply qQ);decide +kernel));(conv=>lhs;simp only[go_sem, ibin, ishift])<;>rfl)|((first|apply qR|apply qS);(conv=>lhs;simp only[go_sem])<;>rfl;rfl)|((first|apply qT|apply qU);(conv=>lhs;simp only[go_sem])<;>rfl;rfl)|apply qV|apply qW|apply qX|apply qY|apply qZ)
  (with_reducible((first|apply pA|apply pB|apply pC|apply pD|apply pE|((first|apply pF|apply pG);decide +kernel));(conv=>lhs;simp only[go_sem, ibin, ishift])<;>rfl))
  refine CK_call [0, 2, 3] hss (by decide) (by simp) rfl rfl (by first | rfl | (simp only [go_sem, ci]; done) | (simp only [go_sem, ci] <;> rfl)) ?_
  rintro v h' ⟨rfl, rfl⟩
  have w1 : IntKind.i64.wrap ((p.now.length : Int) + (bs.length : Int)) = (p.now.length : Int) + (bs.length : Int) := wi _ (by omega) (by omega)
  by_cases h2 : 65536 < p.now.length + bs.length
  · have z2 : decide ((p.now.length : Int) + (bs.length : Int) > 65536) = true := decide_eq_true (by omega)
    rw [if_pos h2]
    (with_reducible((first|apply WO2_finw|apply WO2_fina);(conv=>lhs;simp only[go_sem, ibin, ishift, w1, z2])<;>rfl))
    (repeat' with_reducible first |apply qA|apply qB|apply qC|apply qD|apply qE|apply qF|(apply qG;decide)|apply qH|apply qI|apply qJ|apply qK|((first|apply qL|apply qM|apply qN|apply qO|((first|apply qP|apply qQ);decide +kernel));(conv=>lhs;simp only[go_sem, ibin, ishift])<;>rfl)|((first|apply qR|apply qS);(conv=>lhs;simp only[go_sem])<;>rfl;rfl)|((first|apply qT|apply qU);(conv=>lhs;simp only[go_sem])<;>rfl;rfl)|apply qV|apply qW|apply qX|apply qY|apply qZ)
    refine ⟨by first | exact .inr rfl | exact .inl rfl, _, _, (by (conv => lhs; simp only [go_sem, ibin, ishift]) <;> with_reducible rfl), (by (conv => lhs; simp only [go_sem, ibin, ishift]) <;> with_reducible rfl), ?_⟩
    refine ⟨[0, 1, 2, 3], by decide, rfl, ?_⟩
    rw [hd]
    exact ⟨rfl, rfl⟩
  have z2 : decide ((p.now.length : Int) + (bs.length : Int) > 65536) = false := decide_eq_false (by omega)
  rw [if_neg h2]
  (with_reducible((first|apply WO2_finw|apply WO2_fina);(conv=>lhs;simp only[go_sem, ibin, ishift, w1, z2])<;>rfl))
  (repeat' with_reducible first |apply qA|apply qB|apply qC|apply qD|apply qE|apply qF|(apply qG;decide)|apply qH|apply qI|apply qJ|apply qK|((first|apply qL|apply qM|apply qN|apply qO|((first|apply qP|apply qQ);decide +kernel));(conv=>lhs;simp only[go_sem, ibin, ishift])<;>rfl)|((first|apply qR|apply qS);(conv=>lhs;simp only[go_sem])<;>rfl;rfl)|((first|apply qT|apply qU);(conv=>lhs;simp only[go_sem])<;>rfl;rfl)|apply qV|apply qW|apply qX|apply qY|apply qZ)
  (with_reducible((first|apply pA|apply pB|apply pC|apply pD|apply pE|((first|apply pF|apply pG);decide +kernel));(conv=>lhs;simp only[go_sem, ibin, ishift])<;>rfl))
  refine CK_call [0, 2, 3] hps (by decide) (by simp) rfl rfl (by first | rfl | (simp only [go_sem, ci]; done) | (simp only [go_sem, ci] <;> rfl)) ?_
  rintro v h' ⟨rfl, rfl⟩
  have hst := state_spec c (p.puts p.c bs)
  generalize p.puts p.c bs = q at hst
  unfold Tp.h Tp.o at hst ⊢
  (with_reducible((first|apply WO2_finw|apply WO2_fina);(conv=>lhs;simp only[go_sem, ibin, ishift])<;>rfl))
  (repeat' with_reducible first |apply qA|apply qB|apply qC|apply qD|apply qE|apply qF|(apply qG;decide)|apply qH|apply qI|apply qJ|apply qK|((first|apply qL|apply qM|apply qN|apply qO|((first|apply qP|apply qQ);decide +kernel));(conv=>lhs;simp only[go_sem, ibin, ishift])<;>rfl)|((first|apply qR|apply qS);(conv=>lhs;simp only[go_sem])<;>rfl;rfl)|((first|apply qT|apply qU);(conv=>lhs;simp only[go_sem])<;>rfl;rfl)|apply qV|apply qW|apply qX|apply qY|apply qZ)
  (with_reducible((first|apply pA|apply pB|apply pC|apply pD|apply pE|((first|apply pF|apply pG);decide +kernel));(conv=>lhs;simp only[go_sem, ibin, ishift])<;>rfl))
  refine CK_call [0, 2, 3] hst (by decide) (by simp) rfl rfl (by first | rfl | (simp only [go_sem, ci]; done) | (simp only [go_sem, ci] <;> rfl)) ?_
  rintro v h' ⟨rfl, rfl⟩
  (with_reducible((first|apply WO2_finw|apply WO2_fina);(conv=>lhs;simp only[go_sem, ibin, ishift])<;>rfl))
  (repeat' with_reducible first |apply qA|apply qB|apply qC|apply qD|apply qE|apply qF|(apply qG;decide)|apply qH|apply qI|apply qJ|apply qK|((first|apply qL|apply qM|apply qN|apply qO|((first|apply qP|apply qQ);decide +kernel));(conv=>lhs;simp only[go_sem, ibin, ishift])<;>rfl)|((first|apply qR|apply qS);(conv=>lhs;simp only[go_sem])<;>rfl;rfl)|((first|apply qT|apply qU);(conv=>lhs;simp only[go_sem])<;>rfl;rfl)|apply qV|apply qW|apply qX|apply qY|apply qZ)
  refine ⟨by first | exact .inr rfl | exact .inl rfl, _, _, (by (conv => lhs; simp only [go_sem, ibin, ishift]) <;> with_reducible rfl), (by (conv => lhs; simp only [go_sem, ibin, ishift]) <;> with_reducible rfl), ?_⟩
  refine ⟨[0, 1, 2, 3], by decide, rfl, ?_⟩
  exact ⟨rfl, rfl⟩
end Go.Proofs.Ytfmkomjflhifnaa.Ab
