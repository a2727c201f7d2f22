/- Chapter 19: TapeApart. -/
import Derived.Test.YtfmkomjflhifnaaY19s
namespace Go.Proofs.Ytfmkomjflhifnaa.Ab
open Go
set_option linter.unusedVariables false
set_option linter.unusedSimpArgs false
variable {T : AT}
theorem umod2 (x : Int) (k : Nat) (hk : 0 < k) (hk2 : k ≤ 100000) : ∃ v : Nat, IntKind.i64.wrap ((IntKind.u64.wrap x).tmod (k : Int)) = (v : Int) ∧ v < k := by
  have e : IntKind.u64.wrap x = x % 18446744073709551616 := rfl
  have h0 : 0 ≤ x % 18446744073709551616 := Int.emod_nonneg _ (by decide)
  have h1 := Int.emod_nonneg (x % 18446744073709551616) (show (k : Int) ≠ 0 by omega)
  have h2 := Int.emod_lt_of_pos (x % 18446744073709551616) (show (0 : Int) < k by omega)
  refine ⟨(x % 18446744073709551616 % (k : Int)).toNat, ?_, by omega⟩
  rw [e, Int.tmod_eq_emod_of_nonneg h0, wi _ (by omega) (by omega)]
  omega
theorem append_len (r : Rt) (n : Nat) (x : Nt) : (r.append n [x]).1.now.length ≤ r.now.length + 19 := by
  unfold Rt.append
  split
  · simp only; omega
  split
  · simp only; omega
  rename_i h
  have hx : goodN x := Decidable.byContradiction fun h2 => h (fun h3 => h2 (h3 x (.head _)))
  have h1 := (encB_le hx).1
  split
  · simp only; omega
  split
  · simp only; omega
  · simp only [List.length_append, List.length_take]
    have : (encsB [x]).length ≤ 19 := by simpa [encsB] using h1
    omega
theorem repair_free {r : Rt} (hd : r.dead = false) (hb : r.bud = -1) {g : List Nt} (hg : ReadR r.now g) : r.repair (encsB g).length = (⟨encsB g, r.oth, -1, false⟩, (r.now.length : Int) - (encsB g).length, 0) := by
  have hp := hg.2.1
  have ht : r.now.take (encsB g).length = encsB g := (List.prefix_iff_eq_take.1 hp).symm
  rw [Rt.repair, if_neg (by rw [hd]; decide), some_free hb]
  by_cases h : (encsB g).length < r.now.length
  · rw [if_pos h, if_neg (by rw [hd]; decide), ht, hd, hb]
  · rw [if_neg h]
    have hl := hp.length_le
    have : r.now = encsB g := by rw [← ht, List.take_of_length_le (by omega)]
    obtain ⟨now, oth, bud, dead⟩ := r
    simp only at this hd hb
    subst this hd hb
    rfl
def nS (a : Int) : Nt := ⟨6, a, 0, 0⟩
set_option maxHeartbeats 2000000 in
theorem tapeApart_law (c : TabL19 T) (hT : T i_stillagelaw19_TapeApart = some (.fn c_stillagelaw19_TapeApart)) (l : List Nt) (cut : Int) : Ret2 T 0 i_stillagelaw19_TapeApart [.fz 4 (l.map cN), .i .i64 cut] [] (fun v h' => v = .b true) := by
  refine Ret2_fnv hT rfl rfl ?_
  (repeat' with_reducible first |apply qA|apply qB|apply qC|apply qD|apply qE|apply qF|(apply qG;decide)|apply qH|apply qI|apply qJ|apply qK|((first|apply qL|apply qM|apply qN|apply qO|((first|apply qP|apply qQ);decide +kernel));(conv=>lhs;simp only[go_sem, ibin, ishift])<;>rfl)|((first|apply qR|apply qS);(conv=>lhs;simp only[go_sem])<;>rfl;rfl)|((first|apply qT|apply qU);(conv=>lhs;simp only[go_sem])<;>rfl;rfl)|apply qV|apply qW|apply qX|apply qY|apply qZ)
  (with_reducible((first|apply pA|apply pB|apply pC|apply pD|apply pE|((first|apply pF|apply pG);decide +kernel));(conv=>lhs;simp only[go_sem, ibin, ishift])<;>rfl))
  refine CK_pure (new_spec c.toTabT) rfl ?_
  rintro v h' ⟨rfl, rfl⟩
  unfold Tp.h Tp.o
  have hS0 := Sim.new
  have hr0 : Rt.new.now = [] := rfl
  generalize Tp.new = p0 at hS0 ⊢
  generalize Rt.new = r0 at hS0 hr0
  (with_reducible((first|apply WO2_finw|apply WO2_fina);(conv=>lhs;simp only[go_sem, ibin, ishift])<;>rfl))
  (repeat' with_reducible first |apply qA|apply qB|apply qC|apply qD|apply qE|apply qF|(apply qG;decide)|apply qH|apply qI|apply qJ|apply qK|((first|apply qL|apply qM|apply qN|apply qO|((first|apply qP|apply qQ);decide +kernel));(conv=>lhs;simp only[go_sem, ibin, ishift])<;>rfl)|((first|apply qR|apply qS);(conv=>lhs;simp only[go_sem])<;>rfl;rfl)|((first|apply qT|apply qU);(conv=>lhs;simp only[go_sem])<;>rfl;rfl)|apply qV|apply qW|apply qX|apply qY|apply qZ)
  (with_reducible((first|apply pA|apply pB|apply pC|apply pD|apply pE|((first|apply pF|apply pG);decide +kernel));(conv=>lhs;simp only[go_sem, ibin, ishift])<;>rfl))
  refine CK_pure (always_spec c.awake) rfl ?_
  rintro v h' ⟨rfl, rfl⟩
  by_cases hl : l.length ≤ 60
  rotate_left
  · have z1 : decide ((l.length : Int) > 60) = true := decide_eq_true (by omega)
    (with_reducible((first|apply WO2_finw|apply WO2_fina);(conv=>lhs;simp only[go_sem, ibin, ishift, z1])<;>rfl))
    (repeat' with_reducible first |apply qA|apply qB|apply qC|apply qD|apply qE|apply qF|(apply qG;decide)|apply qH|apply qI|apply qJ|apply qK|((first|apply qL|apply qM|apply qN|apply qO|((first|apply qP|apply qQ);decide +kernel));(conv=>lhs;simp only[go_sem, ibin, ishift])<;>rfl)|((first|apply qR|apply qS);(conv=>lhs;simp only[go_sem])<;>rfl;rfl)|((first|apply qT|apply qU);(conv=>lhs;simp only[go_sem])<;>rfl;rfl)|apply qV|apply qW|apply qX|apply qY|apply qZ)
    refine ⟨by first | exact .inr rfl | exact .inl rfl, _, _, (by (conv => lhs; simp only [go_sem, ibin, ishift]) <;> with_reducible rfl), (by (conv => lhs; simp only [go_sem, ibin, ishift]) <;> with_reducible rfl), ?_⟩
    refine ⟨[], by decide, rfl, ?_⟩
    rfl
  have z1 : decide ((l.length : Int) > 60) = false := decide_eq_false (by omega)
  obtain ⟨b, hb, hb1⟩ := umod2 cut 600 (by decide) (by decide)
  have hb : IntKind.i64.wrap ((IntKind.u64.wrap cut).tmod 600) = (b : Int) := hb
  (with_reducible((first|apply WO2_finw|apply WO2_fina);(conv=>lhs;simp only[go_sem, ibin, ishift, z1])<;>rfl))
  (repeat' with_reducible first |apply qA|apply qB|apply qC|apply qD|apply qE|apply qF|(apply qG;decide)|apply qH|apply qI|apply qJ|apply qK|((first|apply qL|apply qM|apply qN|apply qO|((first|apply qP|apply qQ);decide +kernel));(conv=>lhs;simp only[go_sem, ibin, ishift])<;>rfl)|((first|apply qR|apply qS);(conv=>lhs;simp only[go_sem])<;>rfl;rfl)|((first|apply qT|apply qU);(conv=>lhs;simp only[go_sem])<;>rfl;rfl)|apply qV|apply qW|apply qX|apply qY|apply qZ)
  (with_reducible((first|apply pA|apply pB|apply pC|apply pD|apply pE|((first|apply pF|apply pG);decide +kernel));(conv=>lhs;simp only[go_sem, ibin, ishift, hb])<;>rfl))
  have hq := (hS0.arm b).2
  have hr1 : (r0.arm b).1.now = [] := by
    unfold Rt.arm
    split
    · exact hr0
    · split <;> exact hr0
  refine CK_call [0, 1, 2] (arm_spec c.toTabT p0 b) (by decide) (by simp) rfl rfl (by first | rfl | (simp only [go_sem, Tp.h, Tp.o, ci]; done) | (simp only [go_sem, Tp.h, Tp.o, ci] <;> rfl)) ?_
  rintro v h' ⟨rfl, rfl⟩
  generalize p0.arm b = q at hq
  obtain ⟨p1, e⟩ := q
  generalize (r0.arm b).1 = r1 at hq hr1
  simp only at hq
  unfold Tp.h Tp.o
  simp only
  (with_reducible((first|apply WO2_finw|apply WO2_fina);(conv=>lhs;simp only[go_sem, ibin, ishift])<;>rfl))
  (repeat' with_reducible first |apply qA|apply qB|apply qC|apply qD|apply qE|apply qF|(apply qG;decide)|apply qH|apply qI|apply qJ|apply qK|((first|apply qL|apply qM|apply qN|apply qO|((first|apply qP|apply qQ);decide +kernel));(conv=>lhs;simp only[go_sem, ibin, ishift])<;>rfl)|((first|apply qR|apply qS);(conv=>lhs;simp only[go_sem])<;>rfl;rfl)|((first|apply qT|apply qU);(conv=>lhs;simp only[go_sem])<;>rfl;rfl)|apply qV|apply qW|apply qX|apply qY|apply qZ)
  refine W2_loopu (fun mm u g => ∃ (i : Nat) (p : Tp) (r : Rt), i + mm = l.length ∧ Sim p r ∧ r.now.length ≤ 19 * i ∧ u = [(37, .i .i64 i)] ∧ g = [(0, .obj [.sl 1 1 0 p.a.length none, .sl 1 2 0 p.b.length none, .i .i64 (ci p.c), .b p.armed, .i .i64 p.bud, .b p.dead]), (1, .arr 1 (p.a.map c8)), (2, .arr 1 (p.b.map c8))]) l.length ⟨0, p1, r1, by omega, hq, by rw [hr1]; exact Nat.zero_le _, rfl, rfl⟩ rfl rfl ?_
  rintro mm u g ⟨i, p, r, hi, hS, hrl, rfl, rfl⟩
  intro e1 h1 he1 hh1; simp only [egd, supE, hgd, supH, Nat.reduceEqDiff, Nat.reduceAdd, if_true, if_false, reduceIte] at he1 hh1; subst he1; subst hh1
  obtain ⟨g, hg⟩ := readR_ex r.now
  have hgp : ReadR p.now g := hS.now ▸ hg
  have hnl : p.now.length = r.now.length := by rw [hS.now]
  by_cases hil : i < l.length
  · have zi : decide (i < l.length) = true := decide_eq_true hil
    have hgx := List.getElem?_eq_getElem hil
    generalize l[i] = x at hgx
    have h0 : (0 : Int) ≤ (i : Int) := by omega
    have h1 : (i : Int) < (l.length : Int) := by omega
    have wi1 := wS (show i < 9223372036854775807 by omega)
    (repeat' with_reducible first |apply qA|apply qB|apply qC|apply qD|apply qE|apply qF|(apply qG;decide)|apply qH|apply qI|apply qJ|apply qK|((first|apply qL|apply qM|apply qN|apply qO|((first|apply qP|apply qQ);decide +kernel));(conv=>lhs;simp only[go_sem, ibin, ishift, zi, h0, h1, hil, hgx, cN])<;>rfl)|((first|apply qR|apply qS);(conv=>lhs;simp only[go_sem])<;>rfl;rfl)|((first|apply qT|apply qU);(conv=>lhs;simp only[go_sem])<;>rfl;rfl)|apply qV|apply qW|apply qX|apply qY|apply qZ)
    (with_reducible((first|apply pA|apply pB|apply pC|apply pD|apply pE|((first|apply pF|apply pG);decide +kernel));(conv=>lhs;simp only[go_sem, ibin, ishift, h0, h1, hil, hgx, cN])<;>rfl))
    refine CK_frz 4 rfl (by (conv => lhs; simp only [go_sem, ibin, ishift]) <;> with_reducible rfl) (by (conv => lhs; simp only [go_sem, ibin, ishift]) <;> with_reducible rfl) (by (conv => lhs; simp only [go_sem, ibin, ishift]) <;> with_reducible rfl) ?_
    have hq2 := (hS.append (encsB g).length [x]).2
    have hl2 := append_len r (encsB g).length x
    refine CK_call [0, 1, 2] (append_spec c.toTabT p g hgp (by omega) [x] (by simp)) (by decide) (by simp) rfl (by first | rfl | (simp only [go_sem, cN]; done) | (simp only [go_sem, cN] <;> rfl)) (by first | rfl | (simp only [go_sem, Tp.h, Tp.o, ci]; done) | (simp only [go_sem, Tp.h, Tp.o, ci] <;> rfl)) ?_
    rintro v h' ⟨rfl, rfl⟩
    generalize p.append (encsB g).length [x] = q at hq2
    obtain ⟨p2, e⟩ := q
    generalize (r.append (encsB g).length [x]).1 = r2 at hq2 hl2
    simp only at hq2
    unfold Tp.h Tp.o
    simp only
    (with_reducible((first|apply WO2_finw|apply WO2_fina);(conv=>lhs;simp only[go_sem, ibin, ishift])<;>rfl))
    (repeat' with_reducible first |apply qA|apply qB|apply qC|apply qD|apply qE|apply qF|(apply qG;decide)|apply qH|apply qI|apply qJ|apply qK|((first|apply qL|apply qM|apply qN|apply qO|((first|apply qP|apply qQ);decide +kernel));(conv=>lhs;simp only[go_sem, ibin, ishift, wi1])<;>rfl)|((first|apply qR|apply qS);(conv=>lhs;simp only[go_sem])<;>rfl;rfl)|((first|apply qT|apply qU);(conv=>lhs;simp only[go_sem])<;>rfl;rfl)|apply qV|apply qW|apply qX|apply qY|apply qZ)
    refine ⟨[0, 1, 2], by decide, rfl, ?_⟩
    exact ⟨l.length - (i + 1), _, _, by omega, ⟨i + 1, p2, r2, by omega, hq2, by omega, rfl, rfl⟩, rfl, (by first | rfl | ((conv => lhs; simp only [go_sem, ibin, ishift]) <;> rfl))⟩
  have zi : decide (i < l.length) = false := decide_eq_false hil
  have hrl : r.now.length ≤ 1140 := by omega
  have hab := ab_len hS
  have hSa := hS.crash
  have hss := size_spec c.toTabT p
  have hca := crash_spec c.toTabT p (by omega) (by omega)
  have hcb := crash_spec c.toTabT p.crash (by show p.a.length ≤ _; omega) (by show p.b.length ≤ _; omega)
  have hcc : p.crash.crash = p.crash := rfl
  rw [hcc] at hcb
  have hga : ReadR p.crash.now g := by rw [hSa.now]; exact hg
  have hsa := size_spec c.toTabT p.crash
  have hra := tread_spec c.toTabT p.crash g hga (by have := hSa.l1; omega)
  have hrp := repair_spec c.toTabT p.crash g hga (by have := hSa.l1; omega)
  have hSr := hSa.repair (encsB g).length (by show (encsB g).length ≤ r.now.length; exact hg.2.1.length_le)
  rw [repair_free (r := r.crash) rfl rfl hg] at hSr
  have hna : p.crash.now.length = p.now.length := by rw [hSa.now, hS.now]; rfl
  have hgl := hg.2.1.length_le
  rw [hna] at hsa
  generalize p.crash = pa at hca hcb hsa hra hrp hSr hSa hga
  generalize pa.repair (encsB g).length = q at hrp hSr
  obtain ⟨p3, w, e⟩ := q
  simp only at hSr hrp
  obtain ⟨hwe, hS3⟩ := hSr
  have hwe2 : e = 0 := by have := congrArg Prod.snd hwe; exact this
  subst hwe2
  have hg3 := hg.1
  have zs : decide (p.now.length = p.now.length) = true := by simp
  have zsi : decide ((p.now.length : Int) = (p.now.length : Int)) = true := by simp
  have hglen : g.length ≤ 1000 := by
    have h2 : ∀ l : List Nt, (∀ n ∈ l, goodN n) → 4 * l.length ≤ (encsB l).length := fun l hl => by
      induction l with
      | nil => exact Nat.zero_le _
      | cons x l ih =>
        have := (encB_le (hl x (.head _))).2
        have := ih fun y hy => hl y (.tail _ hy)
        rw [encs_cons, List.length_append, List.length_cons]; omega
    have := h2 g hg.1
    omega
  unfold Tp.h Tp.o at hss hca hcb hsa hra hrp
  (repeat' with_reducible first |apply qA|apply qB|apply qC|apply qD|apply qE|apply qF|(apply qG;decide)|apply qH|apply qI|apply qJ|apply qK|((first|apply qL|apply qM|apply qN|apply qO|((first|apply qP|apply qQ);decide +kernel));(conv=>lhs;simp only[go_sem, ibin, ishift, zi])<;>rfl)|((first|apply qR|apply qS);(conv=>lhs;simp only[go_sem])<;>rfl;rfl)|((first|apply qT|apply qU);(conv=>lhs;simp only[go_sem])<;>rfl;rfl)|apply qV|apply qW|apply qX|apply qY|apply qZ)
  (with_reducible((first|apply pA|apply pB|apply pC|apply pD|apply pE|((first|apply pF|apply pG);decide +kernel));(conv=>lhs;simp only[go_sem, ibin, ishift])<;>rfl))
  refine CK_call [0, 1, 2] hca (by decide) (by simp) rfl rfl (by first | rfl | (simp only [go_sem, ci]; done) | (simp only [go_sem, ci] <;> rfl)) ?_
  rintro v h' ⟨rfl, rfl⟩
  (with_reducible((first|apply WO2_finw|apply WO2_fina);(conv=>lhs;simp only[go_sem, ibin, ishift])<;>rfl))
  (repeat' with_reducible first |apply qA|apply qB|apply qC|apply qD|apply qE|apply qF|(apply qG;decide)|apply qH|apply qI|apply qJ|apply qK|((first|apply qL|apply qM|apply qN|apply qO|((first|apply qP|apply qQ);decide +kernel));(conv=>lhs;simp only[go_sem, ibin, ishift])<;>rfl)|((first|apply qR|apply qS);(conv=>lhs;simp only[go_sem])<;>rfl;rfl)|((first|apply qT|apply qU);(conv=>lhs;simp only[go_sem])<;>rfl;rfl)|apply qV|apply qW|apply qX|apply qY|apply qZ)
  (with_reducible((first|apply pA|apply pB|apply pC|apply pD|apply pE|((first|apply pF|apply pG);decide +kernel));(conv=>lhs;simp only[go_sem, ibin, ishift])<;>rfl))
  refine CK_call [3, 4, 5] hcb (by decide) (by simp) rfl rfl (by first | rfl | (simp only [go_sem, ci]; done) | (simp only [go_sem, ci] <;> rfl)) ?_
  rintro v h' ⟨rfl, rfl⟩
  (with_reducible((first|apply WO2_finw|apply WO2_fina);(conv=>lhs;simp only[go_sem, ibin, ishift])<;>rfl))
  (repeat' with_reducible first |apply qA|apply qB|apply qC|apply qD|apply qE|apply qF|(apply qG;decide)|apply qH|apply qI|apply qJ|apply qK|((first|apply qL|apply qM|apply qN|apply qO|((first|apply qP|apply qQ);decide +kernel));(conv=>lhs;simp only[go_sem, ibin, ishift])<;>rfl)|((first|apply qR|apply qS);(conv=>lhs;simp only[go_sem])<;>rfl;rfl)|((first|apply qT|apply qU);(conv=>lhs;simp only[go_sem])<;>rfl;rfl)|apply qV|apply qW|apply qX|apply qY|apply qZ)
  (with_reducible((first|apply pA|apply pB|apply pC|apply pD|apply pE|((first|apply pF|apply pG);decide +kernel));(conv=>lhs;simp only[go_sem, ibin, ishift])<;>rfl))
  refine CK_call [3, 4, 5] hsa (by decide) (by simp) rfl rfl (by first | rfl | (simp only [go_sem, ci]; done) | (simp only [go_sem, ci] <;> rfl)) ?_
  rintro v h' ⟨rfl, rfl⟩
  (with_reducible((first|apply pA|apply pB|apply pC|apply pD|apply pE|((first|apply pF|apply pG);decide +kernel));(conv=>lhs;simp only[go_sem, ibin, ishift])<;>rfl))
  refine CK_call [0, 1, 2] hss (by decide) (by simp) rfl rfl (by first | rfl | (simp only [go_sem, ci]; done) | (simp only [go_sem, ci] <;> rfl)) ?_
  rintro v h' ⟨rfl, rfl⟩
  (with_reducible((first|apply pA|apply pB|apply pC|apply pD|apply pE|((first|apply pF|apply pG);decide +kernel));(conv=>lhs;simp only[go_sem, ibin, ishift, zs, zsi])<;>rfl))
  refine CK_call [6, 7, 8] hsa (by decide) (by simp) rfl rfl (by first | rfl | (simp only [go_sem, ci]; done) | (simp only [go_sem, ci] <;> rfl)) ?_
  rintro v h' ⟨rfl, rfl⟩
  (with_reducible((first|apply pA|apply pB|apply pC|apply pD|apply pE|((first|apply pF|apply pG);decide +kernel));(conv=>lhs;simp only[go_sem, ibin, ishift])<;>rfl))
  refine CK_call [0, 1, 2] hss (by decide) (by simp) rfl rfl (by first | rfl | (simp only [go_sem, ci]; done) | (simp only [go_sem, ci] <;> rfl)) ?_
  rintro v h' ⟨rfl, rfl⟩
  (with_reducible((first|apply pA|apply pB|apply pC|apply pD|apply pE|((first|apply pF|apply pG);decide +kernel));(conv=>lhs;simp only[go_sem, ibin, ishift, zs, zsi])<;>rfl))
  refine CK_call [3, 4, 5] hra (by decide) (by simp) rfl rfl (by first | rfl | (simp only [go_sem, ci]; done) | (simp only [go_sem, ci] <;> rfl)) ?_
  rintro v h' ⟨rfl, rfl⟩
  (with_reducible((first|apply pA|apply pB|apply pC|apply pD|apply pE|((first|apply pF|apply pG);decide +kernel));(conv=>lhs;simp only[go_sem, ibin, ishift])<;>rfl))
  refine CK_call [6, 7, 8] hra (by decide) (by simp) rfl rfl (by first | rfl | (simp only [go_sem, ci]; done) | (simp only [go_sem, ci] <;> rfl)) ?_
  rintro v h' ⟨rfl, rfl⟩
  (with_reducible((first|apply pA|apply pB|apply pC|apply pD|apply pE|((first|apply pF|apply pG);decide +kernel));(conv=>lhs;simp only[go_sem, ibin, ishift])<;>rfl))
  refine CK_lend [9, 10] (same_spec c.toTabR g g (by omega)) rfl (by first | rfl | (simp only [go_sem, cN]; done) | (simp only [go_sem, cN] <;> rfl)) ?_
  rintro v h' ⟨rfl, rfl⟩
  refine ⟨rfl, fun b hb => by simp at hb, ?_⟩
  rw [decide_eq_true rfl]
  (with_reducible((first|apply WO2_finw|apply WO2_fina);(conv=>lhs;simp only[go_sem, ibin, ishift])<;>rfl))
  (repeat' with_reducible first |apply qA|apply qB|apply qC|apply qD|apply qE|apply qF|(apply qG;decide)|apply qH|apply qI|apply qJ|apply qK|((first|apply qL|apply qM|apply qN|apply qO|((first|apply qP|apply qQ);decide +kernel));(conv=>lhs;simp only[go_sem, ibin, ishift])<;>rfl)|((first|apply qR|apply qS);(conv=>lhs;simp only[go_sem])<;>rfl;rfl)|((first|apply qT|apply qU);(conv=>lhs;simp only[go_sem])<;>rfl;rfl)|apply qV|apply qW|apply qX|apply qY|apply qZ)
  refine W2.wview [3, 4, 5, 6, 7, 8] (by decide) rfl (by (conv => lhs; simp only [go_sem, ibin, ishift]) <;> with_reducible rfl) (by (conv => lhs; simp only [go_sem, ibin, ishift]) <;> with_reducible rfl) ?_
  (with_reducible((first|apply pA|apply pB|apply pC|apply pD|apply pE|((first|apply pF|apply pG);decide +kernel));(conv=>lhs;simp only[go_sem, ibin, ishift])<;>rfl))
  refine CK_call [3, 4, 5] hra (by decide) (by simp) rfl rfl (by first | rfl | (simp only [go_sem, ci]; done) | (simp only [go_sem, ci] <;> rfl)) ?_
  rintro v h' ⟨rfl, rfl⟩
  (with_reducible((first|apply WO2_finw|apply WO2_fina);(conv=>lhs;simp only[go_sem, ibin, ishift])<;>rfl))
  (repeat' with_reducible first |apply qA|apply qB|apply qC|apply qD|apply qE|apply qF|(apply qG;decide)|apply qH|apply qI|apply qJ|apply qK|((first|apply qL|apply qM|apply qN|apply qO|((first|apply qP|apply qQ);decide +kernel));(conv=>lhs;simp only[go_sem, ibin, ishift])<;>rfl)|((first|apply qR|apply qS);(conv=>lhs;simp only[go_sem])<;>rfl;rfl)|((first|apply qT|apply qU);(conv=>lhs;simp only[go_sem])<;>rfl;rfl)|apply qV|apply qW|apply qX|apply qY|apply qZ)
  (with_reducible((first|apply pA|apply pB|apply pC|apply pD|apply pE|((first|apply pF|apply pG);decide +kernel));(conv=>lhs;simp only[go_sem, ibin, ishift])<;>rfl))
  refine CK_call [0, 1, 2] hrp (by decide) (by simp) rfl rfl (by first | rfl | (simp only [go_sem, ci]; done) | (simp only [go_sem, ci] <;> rfl)) ?_
  rintro v h' ⟨rfl, rfl⟩
  (with_reducible((first|apply WO2_finw|apply WO2_fina);(conv=>lhs;simp only[go_sem, ibin, ishift])<;>rfl))
  (repeat' with_reducible first |apply qA|apply qB|apply qC|apply qD|apply qE|apply qF|(apply qG;decide)|apply qH|apply qI|apply qJ|apply qK|((first|apply qL|apply qM|apply qN|apply qO|((first|apply qP|apply qQ);decide +kernel));(conv=>lhs;simp only[go_sem, ibin, ishift])<;>rfl)|((first|apply qR|apply qS);(conv=>lhs;simp only[go_sem])<;>rfl;rfl)|((first|apply qT|apply qU);(conv=>lhs;simp only[go_sem])<;>rfl;rfl)|apply qV|apply qW|apply qX|apply qY|apply qZ)
  have hn3 : p3.now = encsB g := hS3.now
  have hr3 : ReadR p3.now g := by rw [hn3]; exact readR_encs hg3
  have hgd : ∀ z : Int, (z = 5 ∨ z = 6) → goodN ⟨6, z, 0, 0⟩ := fun z hz => by rcases hz with rfl | rfl <;> decide
  have hg5 : ∀ x ∈ [Nt.mk 6 5 0 0], goodN x := fun x hx => by rw [List.mem_singleton.1 hx]; exact hgd 5 (.inl rfl)
  have hg6 : ∀ x ∈ [Nt.mk 6 6 0 0], goodN x := fun x hx => by rw [List.mem_singleton.1 hx]; exact hgd 6 (.inr rfl)
  have he5 := encsB_le hg5
  have he6 := encsB_le hg6
  simp only [List.length_cons, List.length_nil] at he5 he6
  have hq := hS3.append (encsB g).length [⟨6, 5, 0, 0⟩]
  rw [append_free rfl rfl hg5 rfl (by simp only; omega)] at hq
  (with_reducible((first|apply pA|apply pB|apply pC|apply pD|apply pE|((first|apply pF|apply pG);decide +kernel));(conv=>lhs;simp only[go_sem, ibin, ishift])<;>rfl))
  refine CK_frz 7 rfl (by (conv => lhs; simp only [go_sem, ibin, ishift]) <;> with_reducible rfl) (by (conv => lhs; simp only [go_sem, ibin, ishift]) <;> with_reducible rfl) (by (conv => lhs; simp only [go_sem, ibin, ishift]) <;> with_reducible rfl) ?_
  refine CK_call [0, 1, 2] (append_spec c.toTabT p3 g hr3 (by rw [hn3]; omega) [⟨6, 5, 0, 0⟩] (by decide)) (by decide) (by simp) rfl rfl (by first | rfl | (simp only [go_sem, Tp.h, Tp.o, ci]; done) | (simp only [go_sem, Tp.h, Tp.o, ci] <;> rfl)) ?_
  rintro v h' ⟨rfl, rfl⟩
  generalize p3.append (encsB g).length [⟨6, 5, 0, 0⟩] = q at hq
  obtain ⟨p4, e⟩ := q
  simp only at hq
  obtain ⟨rfl, hS4⟩ := hq
  have hq := hS4.compact [⟨6, 6, 0, 0⟩]
  rw [compact_free rfl rfl hg6 (by omega)] at hq
  unfold Tp.h Tp.o
  (with_reducible((first|apply pA|apply pB|apply pC|apply pD|apply pE|((first|apply pF|apply pG);decide +kernel));(conv=>lhs;simp only[go_sem, ibin, ishift])<;>rfl))
  refine CK_frz 8 rfl (by (conv => lhs; simp only [go_sem, ibin, ishift]) <;> with_reducible rfl) (by (conv => lhs; simp only [go_sem, ibin, ishift]) <;> with_reducible rfl) (by (conv => lhs; simp only [go_sem, ibin, ishift]) <;> with_reducible rfl) ?_
  refine CK_call [0, 1, 2] (compact_spec c.toTabT p4 (by have := hS4.l2; unfold Tp.oth at this; omega) [⟨6, 6, 0, 0⟩] (by decide)) (by decide) (by simp) rfl rfl (by first | rfl | (simp only [go_sem, Tp.h, Tp.o, ci]; done) | (simp only [go_sem, Tp.h, Tp.o, ci] <;> rfl)) ?_
  rintro v h' ⟨rfl, rfl⟩
  generalize p4.compact [⟨6, 6, 0, 0⟩] = q at hq
  obtain ⟨p5, e⟩ := q
  simp only at hq
  obtain ⟨rfl, hS5⟩ := hq
  have hr5 : ReadR p5.now [⟨6, 6, 0, 0⟩] := by rw [hS5.now]; exact readR_encs hg6
  have hra5 := tread_spec c.toTabT p5 [⟨6, 6, 0, 0⟩] hr5 (by have := hS5.l1; omega)
  unfold Tp.h Tp.o at hra5 ⊢
  (with_reducible((first|apply WO2_finw|apply WO2_fina);(conv=>lhs;simp only[go_sem, ibin, ishift])<;>rfl))
  (repeat' with_reducible first |apply qA|apply qB|apply qC|apply qD|apply qE|apply qF|(apply qG;decide)|apply qH|apply qI|apply qJ|apply qK|((first|apply qL|apply qM|apply qN|apply qO|((first|apply qP|apply qQ);decide +kernel));(conv=>lhs;simp only[go_sem, ibin, ishift])<;>rfl)|((first|apply qR|apply qS);(conv=>lhs;simp only[go_sem])<;>rfl;rfl)|((first|apply qT|apply qU);(conv=>lhs;simp only[go_sem])<;>rfl;rfl)|apply qV|apply qW|apply qX|apply qY|apply qZ)
  (with_reducible((first|apply pA|apply pB|apply pC|apply pD|apply pE|((first|apply pF|apply pG);decide +kernel));(conv=>lhs;simp only[go_sem, ibin, ishift])<;>rfl))
  refine CK_call [3, 4, 5] hra (by decide) (by simp) rfl rfl (by first | rfl | (simp only [go_sem, ci]; done) | (simp only [go_sem, ci] <;> rfl)) ?_
  rintro v h' ⟨rfl, rfl⟩
  (with_reducible((first|apply WO2_finw|apply WO2_fina);(conv=>lhs;simp only[go_sem, ibin, ishift])<;>rfl))
  (repeat' with_reducible first |apply qA|apply qB|apply qC|apply qD|apply qE|apply qF|(apply qG;decide)|apply qH|apply qI|apply qJ|apply qK|((first|apply qL|apply qM|apply qN|apply qO|((first|apply qP|apply qQ);decide +kernel));(conv=>lhs;simp only[go_sem, ibin, ishift])<;>rfl)|((first|apply qR|apply qS);(conv=>lhs;simp only[go_sem])<;>rfl;rfl)|((first|apply qT|apply qU);(conv=>lhs;simp only[go_sem])<;>rfl;rfl)|apply qV|apply qW|apply qX|apply qY|apply qZ)
  refine W2.wview [0, 1, 2, 3, 4, 5, 6, 9] (by decide) rfl (by (conv => lhs; simp only [go_sem, ibin, ishift]) <;> with_reducible rfl) (by (conv => lhs; simp only [go_sem, ibin, ishift]) <;> with_reducible rfl) ?_
  refine W2_loopu (fun mm u gg => ∃ (j : Nat) (E : List Nt), j + mm = g.length ∧ E.length = g.length ∧ u = [(103, .i .i64 j)] ∧ gg = [(7, .arr 4 (E.map cN))]) g.length ⟨0, g, by omega, rfl, rfl, rfl⟩ rfl rfl ?_
  rintro mm u gg ⟨j, E, hj, hEl, rfl, rfl⟩
  intro e1 h1 he1 hh1; simp only [egd, supE, hgd, supH, Nat.reduceEqDiff, Nat.reduceAdd, if_true, if_false, reduceIte] at he1 hh1; subst he1; subst hh1
  by_cases hjl : j < g.length
  · have zj : decide (j < g.length) = true := decide_eq_true hjl
    have hjE : j < E.length := by omega
    have hgE := List.getElem?_eq_getElem hjE
    generalize E[j] = ee at hgE
    have j0 : (0 : Int) ≤ (j : Int) := by omega
    have j1 : (j : Int) < (g.length : Int) := by omega
    have wj := wS (show j < 9223372036854775807 by omega)
    (repeat' with_reducible first |apply qA|apply qB|apply qC|apply qD|apply qE|apply qF|(apply qG;decide)|apply qH|apply qI|apply qJ|apply qK|((first|apply qL|apply qM|apply qN|apply qO|((first|apply qP|apply qQ);decide +kernel));(conv=>lhs;simp only[go_sem, ibin, ishift, zj, j0, j1, hjl, hjE, hgE, cN, hEl, wj])<;>rfl)|((first|apply qR|apply qS);(conv=>lhs;simp only[go_sem])<;>rfl;rfl)|((first|apply qT|apply qU);(conv=>lhs;simp only[go_sem])<;>rfl;rfl)|apply qV|apply qW|apply qX|apply qY|apply qZ)
    rw [show (E.map cN).set j [.i .i64 ee.k, .i .i64 (IntKind.i64.wrap (ee.a + 1)), .i .i64 ee.b, .i .i64 ee.c] = (E.set j ⟨ee.k, IntKind.i64.wrap (ee.a + 1), ee.b, ee.c⟩).map cN by rw [List.map_set]; rfl]
    refine ⟨[0, 1, 2, 3, 4, 5, 6, 7], by decide, rfl, ?_⟩
    exact ⟨g.length - (j + 1), _, _, by omega, ⟨j + 1, E.set j ⟨ee.k, IntKind.i64.wrap (ee.a + 1), ee.b, ee.c⟩, by omega, (by rw [List.length_set]; exact hEl), rfl, rfl⟩, rfl, (by first | rfl | ((conv => lhs; simp only [go_sem, ibin, ishift]) <;> rfl))⟩
  have zj : decide (j < g.length) = false := decide_eq_false hjl
  (repeat' with_reducible first |apply qA|apply qB|apply qC|apply qD|apply qE|apply qF|(apply qG;decide)|apply qH|apply qI|apply qJ|apply qK|((first|apply qL|apply qM|apply qN|apply qO|((first|apply qP|apply qQ);decide +kernel));(conv=>lhs;simp only[go_sem, ibin, ishift, zj])<;>rfl)|((first|apply qR|apply qS);(conv=>lhs;simp only[go_sem])<;>rfl;rfl)|((first|apply qT|apply qU);(conv=>lhs;simp only[go_sem])<;>rfl;rfl)|apply qV|apply qW|apply qX|apply qY|apply qZ)
  (with_reducible((first|apply pA|apply pB|apply pC|apply pD|apply pE|((first|apply pF|apply pG);decide +kernel));(conv=>lhs;simp only[go_sem, ibin, ishift])<;>rfl))
  refine CK_call [3, 4, 5] hra (by decide) (by simp) rfl rfl (by first | rfl | (simp only [go_sem, ci]; done) | (simp only [go_sem, ci] <;> rfl)) ?_
  rintro v h' ⟨rfl, rfl⟩
  (with_reducible((first|apply pA|apply pB|apply pC|apply pD|apply pE|((first|apply pF|apply pG);decide +kernel));(conv=>lhs;simp only[go_sem, ibin, ishift])<;>rfl))
  refine CK_lend [8, 6] (same_spec c.toTabR g g (by omega)) rfl (by first | rfl | (simp only [go_sem, cN]; done) | (simp only [go_sem, cN] <;> rfl)) ?_
  rintro v h' ⟨rfl, rfl⟩
  refine ⟨rfl, fun b hb => by simp at hb, ?_⟩
  rw [decide_eq_true rfl]
  (with_reducible((first|apply pA|apply pB|apply pC|apply pD|apply pE|((first|apply pF|apply pG);decide +kernel));(conv=>lhs;simp only[go_sem, ibin, ishift])<;>rfl))
  refine CK_call [0, 1, 2] hra5 (by decide) (by simp) rfl rfl (by first | rfl | (simp only [go_sem, ci]; done) | (simp only [go_sem, ci] <;> rfl)) ?_
  rintro v h' ⟨rfl, rfl⟩
  (with_reducible((first|apply pA|apply pB|apply pC|apply pD|apply pE|((first|apply pF|apply pG);decide +kernel));(conv=>lhs;simp only[go_sem, ibin, ishift])<;>rfl))
  refine CK_lend [9, 10] (same_spec c.toTabR [⟨6, 6, 0, 0⟩] [⟨6, 6, 0, 0⟩] (by decide)) rfl rfl ?_
  rintro v h' ⟨rfl, rfl⟩
  refine ⟨rfl, fun b hb => by simp at hb, ?_⟩
  rw [decide_eq_true rfl]
  (with_reducible((first|apply WO2_finw|apply WO2_fina);(conv=>lhs;simp only[go_sem, ibin, ishift])<;>rfl))
  (repeat' with_reducible first |apply qA|apply qB|apply qC|apply qD|apply qE|apply qF|(apply qG;decide)|apply qH|apply qI|apply qJ|apply qK|((first|apply qL|apply qM|apply qN|apply qO|((first|apply qP|apply qQ);decide +kernel));(conv=>lhs;simp only[go_sem, ibin, ishift])<;>rfl)|((first|apply qR|apply qS);(conv=>lhs;simp only[go_sem])<;>rfl;rfl)|((first|apply qT|apply qU);(conv=>lhs;simp only[go_sem])<;>rfl;rfl)|apply qV|apply qW|apply qX|apply qY|apply qZ)
  refine ⟨by first | exact .inr rfl | exact .inl rfl, _, _, (by (conv => lhs; simp only [go_sem, ibin, ishift]) <;> with_reducible rfl), (by (conv => lhs; simp only [go_sem, ibin, ishift]) <;> with_reducible rfl), ?_⟩
  refine ⟨[], by decide, rfl, ?_⟩
  rfl
end Go.Proofs.Ytfmkomjflhifnaa.Ab
