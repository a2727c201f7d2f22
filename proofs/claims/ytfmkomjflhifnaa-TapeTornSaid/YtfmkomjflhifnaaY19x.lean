/- Chapter 19: TapeTorn. -/
import Derived.Test.YtfmkomjflhifnaaY19s
namespace Go.Proofs.Ytfmkomjflhifnaa.Ab
open Go
set_option linter.unusedVariables false
set_option linter.unusedSimpArgs false
variable {T : AT}
theorem umod3 (x : Int) (k : Nat) (hk : 0 < k) (hk2 : k ≤ 100000) : ∃ v : Nat, IntKind.i64.wrap ((IntKind.u64.wrap x).tmod (k : Int)) = (v : Int) ∧ v < k := by
  have e : IntKind.u64.wrap x = x % 18446744073709551616 := rfl
  have h0 : 0 ≤ x % 18446744073709551616 := Int.emod_nonneg _ (by decide)
  have h1 := Int.emod_nonneg (x % 18446744073709551616) (show (k : Int) ≠ 0 by omega)
  have h2 := Int.emod_lt_of_pos (x % 18446744073709551616) (show (0 : Int) < k by omega)
  refine ⟨(x % 18446744073709551616 % (k : Int)).toNat, ?_, by omega⟩
  rw [e, Int.tmod_eq_emod_of_nonneg h0, wi _ (by omega) (by omega)]
  omega
theorem min30 (n : Nat) : (if (30 : Int) < (n : Int) then (30 : Int) else (n : Int)) = ((min n 30 : Nat) : Int) := by
  split <;> omega
/-- a tape that isn't dead has just what was wanted -/
structure Up (i : Nat) (r : Rt) (w : List Nt) : Prop where
  now : r.now = encsB w
  good : ∀ x ∈ w, goodN x
  live : r.dead = false
  pw : 0 ≤ r.bud
  len : w.length ≤ 30 * i
/-- what an append does to it -/
theorem Up.append {i : Nat} {r : Rt} {w : List Nt} (h : Up i r w) {l : List Nt} (hl : l.length ≤ 30) :
    ((r.append (encsB w).length l).2 = 0 ∧ Up (i + 1) (r.append (encsB w).length l).1 (w ++ l)) ∨
    ((r.append (encsB w).length l).2 = 190 ∧ (∀ x ∈ l, goodN x) ∧ ∃ k, (r.append (encsB w).length l).1.now = (encsB (w ++ l)).take k ∧ (encsB w).length ≤ k) ∨
    ((r.append (encsB w).length l).2 ≠ 0 ∧ (r.append (encsB w).length l).2 ≠ 190 ∧ Up (i + 1) (r.append (encsB w).length l).1 w) := by
  have hup : Up (i + 1) r w := ⟨h.now, h.good, h.live, h.pw, by have := h.len; omega⟩
  unfold Rt.append
  rw [if_neg (by rw [h.live]; decide)]
  by_cases h1 : ¬(∀ x ∈ l, goodN x)
  · rw [if_pos h1]; exact .inr (.inr ⟨by simp, by simp, hup⟩)
  rw [if_neg h1, if_neg (by rw [h.now]; omega)]
  have hg : ∀ x ∈ l, goodN x := Decidable.not_not.1 h1
  by_cases h2 : 65536 < r.now.length + (encsB l).length
  · rw [if_pos h2]; exact .inr (.inr ⟨by simp, by simp, hup⟩)
  rw [if_neg h2]
  have hpw := h.pw
  unfold Rt.some
  by_cases h3 : r.bud < 0 ∨ ((encsB l).length : Int) ≤ r.bud
  · rw [if_pos h3, if_pos hpw]
    refine .inl ⟨by simp only [Rt.code, h.live]; rfl, ?_, ?_, h.live, by simp only; omega, ?_⟩
    · simp only; rw [List.take_length, h.now, encs_app]
    · intro x hx; rcases List.mem_append.1 hx with hx | hx
      · exact h.good x hx
      · exact hg x hx
    · rw [List.length_append]; have := h.len; omega
  · rw [if_neg h3]
    refine .inr (.inl ⟨rfl, hg, (encsB w).length + r.bud.toNat, ?_, by omega⟩)
    simp only
    rw [h.now, encs_app, List.take_append, List.take_of_length_le (show (encsB w).length ≤ (encsB w).length + r.bud.toNat by omega), Nat.add_sub_cancel_left]
def cLl (l : List Nt) : List PV := [.fz 4 (l.map cN)]
set_option maxHeartbeats 2000000 in
theorem tapeTorn_law (c : TabL19 T) (hT : T i_stillagelaw19_TapeTorn = some (.fn c_stillagelaw19_TapeTorn)) (ls : List (List Nt)) (cut : Int) : Ret2 T 0 i_stillagelaw19_TapeTorn [.fz 1 (ls.map cLl), .i .i64 cut] [] (fun v h' => v = .b true) := by
  refine Ret2_fnv hT rfl rfl ?_
  (repeat' with_reducible first |apply qA|apply qB|apply qC|apply qD|apply qE|apply qF|(apply qG;decide)|apply qH|apply qI|apply qJ|apply qK|((first|apply qL|apply qM|apply qN|apply qO|((first|apply qP|apply qQ);decide +kernel));(conv=>lhs;simp only[go_sem, ibin, ishift])<;>rfl)|((first|apply qR|apply qS);(conv=>lhs;simp only[go_sem])<;>rfl;rfl)|((first|apply qT|apply qU);(conv=>lhs;simp only[go_sem])<;>rfl;rfl)|apply qV|apply qW|apply qX|apply qY|apply qZ)
  (with_reducible((first|apply pA|apply pB|apply pC|apply pD|apply pE|((first|apply pF|apply pG);decide +kernel));(conv=>lhs;simp only[go_sem, ibin, ishift])<;>rfl))
  refine CK_pure (new_spec c.toTabT) rfl ?_
  rintro v h' ⟨rfl, rfl⟩
  unfold Tp.h Tp.o
  have hS0 := Sim.new
  obtain ⟨b, hb, hb1⟩ := umod3 cut 5000 (by decide) (by decide)
  have hb : IntKind.i64.wrap ((IntKind.u64.wrap cut).tmod 5000) = (b : Int) := hb
  have hra : Rt.new.arm (b : Int) = (⟨[], [], (b : Int), false⟩, 0) := by rw [Rt.arm, if_neg (fun h => by cases h), if_neg (by omega)]; rfl
  generalize Tp.new = p0 at hS0 ⊢
  generalize Rt.new = r0 at hS0 hra
  (with_reducible((first|apply WO2_finw|apply WO2_fina);(conv=>lhs;simp only[go_sem, ibin, ishift])<;>rfl))
  (repeat' with_reducible first |apply qA|apply qB|apply qC|apply qD|apply qE|apply qF|(apply qG;decide)|apply qH|apply qI|apply qJ|apply qK|((first|apply qL|apply qM|apply qN|apply qO|((first|apply qP|apply qQ);decide +kernel));(conv=>lhs;simp only[go_sem, ibin, ishift])<;>rfl)|((first|apply qR|apply qS);(conv=>lhs;simp only[go_sem])<;>rfl;rfl)|((first|apply qT|apply qU);(conv=>lhs;simp only[go_sem])<;>rfl;rfl)|apply qV|apply qW|apply qX|apply qY|apply qZ)
  (with_reducible((first|apply pA|apply pB|apply pC|apply pD|apply pE|((first|apply pF|apply pG);decide +kernel));(conv=>lhs;simp only[go_sem, ibin, ishift])<;>rfl))
  refine CK_pure (always_spec c.awake) rfl ?_
  rintro v h' ⟨rfl, rfl⟩
  (with_reducible((first|apply pA|apply pB|apply pC|apply pD|apply pE|((first|apply pF|apply pG);decide +kernel));(conv=>lhs;simp only[go_sem, ibin, ishift, hb])<;>rfl))
  have hq := hS0.arm b
  rw [hra] at hq
  refine CK_call [0, 1, 2] (arm_spec c.toTabT p0 b) (by decide) (by simp) rfl rfl (by first | rfl | (simp only [go_sem, Tp.h, Tp.o, ci]; done) | (simp only [go_sem, Tp.h, Tp.o, ci] <;> rfl)) ?_
  rintro v h' ⟨rfl, rfl⟩
  generalize p0.arm b = q at hq
  obtain ⟨p1, e⟩ := q
  simp only at hq
  obtain ⟨rfl, hS1⟩ := hq
  unfold Tp.h Tp.o
  (with_reducible((first|apply WO2_finw|apply WO2_fina);(conv=>lhs;simp only[go_sem, ibin, ishift])<;>rfl))
  have hU1 : Up 0 ⟨[], [], (b : Int), false⟩ [] := ⟨rfl, by simp, rfl, by simp only; omega, Nat.le_refl _⟩
  generalize Rt.mk [] [] (b : Int) false = r1 at hS1 hU1
  (repeat' with_reducible first |apply qA|apply qB|apply qC|apply qD|apply qE|apply qF|(apply qG;decide)|apply qH|apply qI|apply qJ|apply qK|((first|apply qL|apply qM|apply qN|apply qO|((first|apply qP|apply qQ);decide +kernel));(conv=>lhs;simp only[go_sem, ibin, ishift])<;>rfl)|((first|apply qR|apply qS);(conv=>lhs;simp only[go_sem])<;>rfl;rfl)|((first|apply qT|apply qU);(conv=>lhs;simp only[go_sem])<;>rfl;rfl)|apply qV|apply qW|apply qX|apply qY|apply qZ)
  refine W2.wnil 6 4 rfl (by (conv => lhs; simp only [go_sem, ibin, ishift]) <;> with_reducible rfl) (by (conv => lhs; simp only [go_sem, ibin, ishift]) <;> with_reducible rfl) ?_
  refine W2.post (Q' := fun t e h => t = .ex 0 ∧ ∃ e1 h1, Wk 0 e h e1 h1 ∧ ∃ (p : Tp) (r : Rt) (w L : List Nt) (k : Nat), Sim p r ∧ (∀ x ∈ w, goodN x) ∧ (∀ x ∈ L, goodN x) ∧ w.length ≤ 930 ∧ L.length ≤ 30 ∧ r.now = (encsB (w ++ L)).take k ∧ (encsB w).length ≤ k ∧
    e1 = [(5, .ptr 0 0), (6, .sl 4 3 0 w.length none), (7, .fz 4 (L.map cN))] ∧ h1 = [some (.obj [.sl 1 1 0 p.a.length none, .sl 1 2 0 p.b.length none, .i .i64 (ci p.c), .b p.armed, .i .i64 p.bud, .b p.dead]), some (.arr 1 (p.a.map c8)), some (.arr 1 (p.b.map c8)), some (.arr 4 (w.map cN))]) ?_ ?_
  · refine W2_loopu (fun mm u g => ∃ (i : Nat) (p : Tp) (r : Rt) (w : List Nt), i + mm = 30 ∧ Sim p r ∧ Up i r w ∧ u = [(6, .sl 4 3 0 w.length none), (8, .i .i64 i)] ∧ g = [(0, .obj [.sl 1 1 0 p.a.length none, .sl 1 2 0 p.b.length none, .i .i64 (ci p.c), .b p.armed, .i .i64 p.bud, .b p.dead]), (1, .arr 1 (p.a.map c8)), (2, .arr 1 (p.b.map c8)), (3, .arr 4 (w.map cN))]) 30 ⟨0, p1, r1, [], by omega, hS1, hU1, rfl, rfl⟩ rfl rfl ?_
    rintro mm u g ⟨i, p, r, w, hi, hS, hU, rfl, rfl⟩
    intro e1 h1 he1 hh1; simp only [egd, supE, hgd, supH, Nat.reduceEqDiff, Nat.reduceAdd, if_true, if_false, reduceIte] at he1 hh1; subst he1; subst hh1
    have hwl := hU.len
    by_cases hil : i < ls.length ∧ i < 30
    rotate_left
    · have hdec : (decide (i < ls.length) && decide ((i : Int) < 30)) = false := by
        by_cases h : i < ls.length
        · rw [decide_eq_false (show ¬((i : Int) < 30) by omega)]; simp
        · rw [decide_eq_false h]; rfl
      ((repeat' with_reducible first |apply qA|apply qB|apply qC|apply qD|apply qE|apply qF|(apply qG;decide)|apply qH|apply qI|apply qJ|apply qK|apply qX|((first|apply qR|apply qS);(conv=>lhs;simp only[go_sem])<;>rfl;rfl)|((first|apply qT|apply qU);(conv=>lhs;simp only[go_sem])<;>rfl;rfl)|apply qZ|apply qY|apply qW);with_reducible((first|apply qL|apply qM|apply qN|apply qO|((first|apply qP|apply qQ);decide +kernel));(conv=>lhs;simp only[go_sem, ibin, ishift])<;>rfl))
      rw [hdec]
      (repeat' with_reducible first |apply qA|apply qB|apply qC|apply qD|apply qE|apply qF|(apply qG;decide)|apply qH|apply qI|apply qJ|apply qK|((first|apply qL|apply qM|apply qN|apply qO|((first|apply qP|apply qQ);decide +kernel));(conv=>lhs;simp only[go_sem, ibin, ishift])<;>rfl)|((first|apply qR|apply qS);(conv=>lhs;simp only[go_sem])<;>rfl;rfl)|((first|apply qT|apply qU);(conv=>lhs;simp only[go_sem])<;>rfl;rfl)|apply qV|apply qW|apply qX|apply qY|apply qZ)
      exact ⟨rfl, _, _, Wk.trans (Wk.keep [5, 6, 7] rfl) (Wk.nilf 7 4 rfl), p, r, w, [], (encsB w).length, hS, hU.good, by simp, by omega, Nat.zero_le _, by rw [List.append_nil, List.take_length]; exact hU.now, Nat.le_refl _, rfl, (by first | rfl | ((conv => lhs; simp only [go_sem, ibin, ishift]) <;> rfl))⟩
    obtain ⟨hil, hi2⟩ := hil
    have hgx := List.getElem?_eq_getElem hil
    generalize ls[i] = x at hgx
    have h0 : (0 : Int) ≤ (i : Int) := by omega
    have h1 : (i : Int) < (ls.length : Int) := by omega
    have d1 : decide ((i : Int) < (ls.length : Int)) = true := decide_eq_true h1
    have d2 : decide ((i : Int) < 30) = true := decide_eq_true (by omega)
    have d3 : decide (i < ls.length) = true := decide_eq_true hil
    have wi1 := wS (show i < 9223372036854775807 by omega)
    have m30 := min30 x.length
    have b1 : (0 : Int) ≤ ((min x.length 30 : Nat) : Int) := by omega
    have b2 : ((min x.length 30 : Nat) : Int) ≤ (x.length : Int) := by omega
    have b3 : min x.length 30 ≤ x.length := by omega
    (repeat' with_reducible first |apply qA|apply qB|apply qC|apply qD|apply qE|apply qF|(apply qG;decide)|apply qH|apply qI|apply qJ|apply qK|((first|apply qL|apply qM|apply qN|apply qO|((first|apply qP|apply qQ);decide +kernel));(conv=>lhs;simp only[go_sem, ibin, ishift, d1, d2, d3, h0, h1, hil, hgx, cLl, m30, b1, b2, b3])<;>rfl)|((first|apply qR|apply qS);(conv=>lhs;simp only[go_sem])<;>rfl;rfl)|((first|apply qT|apply qU);(conv=>lhs;simp only[go_sem])<;>rfl;rfl)|apply qV|apply qW|apply qX|apply qY|apply qZ)
    generalize hX : x.take (min x.length 30) = X
    have hXl : X.length ≤ 30 := by rw [← hX, List.length_take]; omega
    have hq := hS.append (encsB w).length X
    have hup := hU.append hXl
    have hpn : p.now = encsB w := hS.now.trans hU.now
    (repeat' with_reducible first |apply qA|apply qB|apply qC|apply qD|apply qE|apply qF|(apply qG;decide)|apply qH|apply qI|apply qJ|apply qK|((first|apply qL|apply qM|apply qN|apply qO|((first|apply qP|apply qQ);decide +kernel));(conv=>lhs;simp only[go_sem, ibin, ishift])<;>rfl)|((first|apply qR|apply qS);(conv=>lhs;simp only[go_sem])<;>rfl;rfl)|((first|apply qT|apply qU);(conv=>lhs;simp only[go_sem])<;>rfl;rfl)|apply qV|apply qW|apply qX|apply qY|apply qZ)
    (with_reducible((first|apply pA|apply pB|apply pC|apply pD|apply pE|((first|apply pF|apply pG);decide +kernel));(conv=>lhs;simp only[go_sem, ibin, ishift])<;>rfl))
    refine CK_call [0, 1, 2] (append_spec c.toTabT p w (by rw [hpn]; exact readR_encs hU.good) (by have := hS.l1; omega) X (by omega)) (by decide) (by simp) rfl rfl (by first | rfl | (simp only [go_sem, Tp.h, Tp.o, ci]; done) | (simp only [go_sem, Tp.h, Tp.o, ci] <;> rfl)) ?_
    rintro v h' ⟨rfl, rfl⟩
    generalize p.append (encsB w).length X = q at hq
    obtain ⟨p2, e⟩ := q
    generalize r.append (encsB w).length X = q2 at hq hup
    obtain ⟨r2, e2⟩ := q2
    simp only at hq hup
    obtain ⟨rfl, hS2⟩ := hq
    unfold Tp.h Tp.o
    rcases hup with ⟨rfl, hU2⟩ | ⟨rfl, hXg, k, hk1, hk2⟩ | ⟨n0, n1, hU2⟩
    · have hroom : (w.length + X.length) * 32 ≤ room := by simp only [room]; omega
      have hwt : w.take w.length = w := List.take_length
      (with_reducible((first|apply WO2_finw|apply WO2_fina);(conv=>lhs;simp only[go_sem, ibin, ishift])<;>rfl))
      (repeat' with_reducible first |apply qA|apply qB|apply qC|apply qD|apply qE|apply qF|(apply qG;decide)|apply qH|apply qI|apply qJ|apply qK|((first|apply qL|apply qM|apply qN|apply qO|((first|apply qP|apply qQ);decide +kernel));(conv=>lhs;simp only[go_sem, ibin, ishift, hroom, hwt, Nat.le_refl, wi1])<;>rfl)|((first|apply qR|apply qS);(conv=>lhs;simp only[go_sem])<;>rfl;rfl)|((first|apply qT|apply qU);(conv=>lhs;simp only[go_sem])<;>rfl;rfl)|apply qV|apply qW|apply qX|apply qY|apply qZ)
      refine ⟨[0, 1, 2, 4], by decide, rfl, ?_⟩
      rw [← List.map_append, ← List.length_append]
      exact ⟨30 - (i + 1), _, _, by omega, ⟨i + 1, p2, r2, w ++ X, by omega, hS2, hU2, rfl, rfl⟩, rfl, (by first | rfl | ((conv => lhs; simp only [go_sem, ibin, ishift]) <;> rfl))⟩
    · (with_reducible((first|apply WO2_finw|apply WO2_fina);(conv=>lhs;simp only[go_sem, ibin, ishift])<;>rfl))
      (repeat' with_reducible first |apply qA|apply qB|apply qC|apply qD|apply qE|apply qF|(apply qG;decide)|apply qH|apply qI|apply qJ|apply qK|((first|apply qL|apply qM|apply qN|apply qO|((first|apply qP|apply qQ);decide +kernel));(conv=>lhs;simp only[go_sem, ibin, ishift])<;>rfl)|((first|apply qR|apply qS);(conv=>lhs;simp only[go_sem])<;>rfl;rfl)|((first|apply qT|apply qU);(conv=>lhs;simp only[go_sem])<;>rfl;rfl)|apply qV|apply qW|apply qX|apply qY|apply qZ)
      exact ⟨rfl, _, _, Wk.keep [5, 6, 7] rfl, p2, r2, w, X, k, hS2, hU.good, hXg, by omega, hXl, hk1, hk2, rfl, (by first | rfl | ((conv => lhs; simp only [go_sem, ibin, ishift]) <;> rfl))⟩
    · have z0 : decide (e = 0) = false := decide_eq_false n0
      have z1 : decide (e = 190) = false := decide_eq_false n1
      (with_reducible((first|apply WO2_finw|apply WO2_fina);(conv=>lhs;simp only[go_sem, ibin, ishift])<;>rfl))
      (repeat' with_reducible first |apply qA|apply qB|apply qC|apply qD|apply qE|apply qF|(apply qG;decide)|apply qH|apply qI|apply qJ|apply qK|((first|apply qL|apply qM|apply qN|apply qO|((first|apply qP|apply qQ);decide +kernel));(conv=>lhs;simp only[go_sem, ibin, ishift, z0, z1, wi1])<;>rfl)|((first|apply qR|apply qS);(conv=>lhs;simp only[go_sem])<;>rfl;rfl)|((first|apply qT|apply qU);(conv=>lhs;simp only[go_sem])<;>rfl;rfl)|apply qV|apply qW|apply qX|apply qY|apply qZ)
      refine ⟨[0, 1, 2, 3], by decide, rfl, ?_⟩
      exact ⟨30 - (i + 1), _, _, by omega, ⟨i + 1, p2, r2, w, by omega, hS2, hU2, rfl, rfl⟩, rfl, (by first | rfl | ((conv => lhs; simp only [go_sem, ibin, ishift]) <;> rfl))⟩
  rintro t e h ⟨rfl, e1, h1, hwk, p, r, w, L, k, hS, hw, hL, hwl, hLl, hnow, hk, rfl, rfl⟩
  refine ⟨_, _, hwk, ?_⟩
  have hab := ab_len hS
  have hSa := hS.crash
  obtain ⟨G, hG⟩ := readR_ex r.now
  have hGa : ReadR p.crash.now G := by rw [hSa.now]; exact hG
  have hGt := hG
  rw [hnow] at hGt
  have hwL : ∀ x ∈ w ++ L, goodN x := fun x hx => (List.mem_append.1 hx).elim (hw x) (hL x)
  obtain ⟨hG1, hG2⟩ := read_take hwL hGt
  have hpre : encsB w <+: (encsB (w ++ L)).take k := by
    rw [encs_app, List.take_append, List.take_of_length_le hk]; exact List.prefix_append _ _
  obtain ⟨hG3, hG4⟩ := read_pre hw hpre hGt
  rw [List.length_append] at hG2
  have hca := crash_spec c.toTabT p (by omega) (by omega)
  have hra := tread_spec c.toTabT p.crash G hGa (by have := hSa.l1; omega)
  have hrp := repair_spec c.toTabT p.crash G hGa (by have := hSa.l1; omega)
  have hSr := hSa.repair (encsB G).length (by show (encsB G).length ≤ r.now.length; exact hG.2.1.length_le)
  rw [repair_free (r := r.crash) rfl rfl hG] at hSr
  have hGd : G.drop w.length = L.take (G.length - w.length) := by
    have := congrArg (List.drop w.length) hG1
    rw [this, List.drop_take, List.drop_left]
  generalize p.crash = pa at hca hra hrp hSr hSa hGa
  generalize pa.repair (encsB G).length = q at hrp hSr
  obtain ⟨p3, v3, e⟩ := q
  simp only at hSr hrp
  obtain ⟨hwe, hS3⟩ := hSr
  have hwe2 : e = 0 := by have := congrArg Prod.snd hwe; exact this
  subst hwe2
  unfold Tp.h Tp.o at hca hra hrp
  (repeat' with_reducible first |apply qA|apply qB|apply qC|apply qD|apply qE|apply qF|(apply qG;decide)|apply qH|apply qI|apply qJ|apply qK|((first|apply qL|apply qM|apply qN|apply qO|((first|apply qP|apply qQ);decide +kernel));(conv=>lhs;simp only[go_sem, ibin, ishift])<;>rfl)|((first|apply qR|apply qS);(conv=>lhs;simp only[go_sem])<;>rfl;rfl)|((first|apply qT|apply qU);(conv=>lhs;simp only[go_sem])<;>rfl;rfl)|apply qV|apply qW|apply qX|apply qY|apply qZ)
  (with_reducible((first|apply pA|apply pB|apply pC|apply pD|apply pE|((first|apply pF|apply pG);decide +kernel));(conv=>lhs;simp only[go_sem, ibin, ishift])<;>rfl))
  refine CK_call [0, 1, 2] hca (by decide) (by simp) rfl rfl (by first | rfl | (simp only [go_sem, ci]; done) | (simp only [go_sem, ci] <;> rfl)) ?_
  rintro v h' ⟨rfl, rfl⟩
  (with_reducible((first|apply WO2_finw|apply WO2_fina);(conv=>lhs;simp only[go_sem, ibin, ishift])<;>rfl))
  (repeat' with_reducible first |apply qA|apply qB|apply qC|apply qD|apply qE|apply qF|(apply qG;decide)|apply qH|apply qI|apply qJ|apply qK|((first|apply qL|apply qM|apply qN|apply qO|((first|apply qP|apply qQ);decide +kernel));(conv=>lhs;simp only[go_sem, ibin, ishift])<;>rfl)|((first|apply qR|apply qS);(conv=>lhs;simp only[go_sem])<;>rfl;rfl)|((first|apply qT|apply qU);(conv=>lhs;simp only[go_sem])<;>rfl;rfl)|apply qV|apply qW|apply qX|apply qY|apply qZ)
  (with_reducible((first|apply pA|apply pB|apply pC|apply pD|apply pE|((first|apply pF|apply pG);decide +kernel));(conv=>lhs;simp only[go_sem, ibin, ishift])<;>rfl))
  refine CK_call [4, 5, 6] hra (by decide) (by simp) rfl rfl (by first | rfl | (simp only [go_sem, ci]; done) | (simp only [go_sem, ci] <;> rfl)) ?_
  rintro v h' ⟨rfl, rfl⟩
  (with_reducible((first|apply WO2_finw|apply WO2_fina);(conv=>lhs;simp only[go_sem, ibin, ishift])<;>rfl))
  have ww : IntKind.i64.wrap ((w.length : Int) + (L.length : Int)) = (w.length : Int) + (L.length : Int) := wi _ (by omega) (by omega)
  have wg : IntKind.i64.wrap ((G.length : Int) - (w.length : Int)) = ((G.length - w.length : Nat) : Int) := by rw [wi _ (by omega) (by omega)]; omega
  have q1 : decide (G.length < w.length) = false := decide_eq_false (by omega)
  have q2 : decide ((G.length : Int) > (w.length : Int) + (L.length : Int)) = false := decide_eq_false (by omega)
  have q3 : (0 : Int) ≤ (w.length : Int) := by omega
  have q4 : (w.length : Int) ≤ (G.length : Int) := by omega
  have q5 : (0 : Int) ≤ ((G.length - w.length : Nat) : Int) := by omega
  have q6 : ((G.length - w.length : Nat) : Int) ≤ (L.length : Int) := by omega
  have q7 : G.length - w.length ≤ L.length := by omega
  (repeat' with_reducible first |apply qA|apply qB|apply qC|apply qD|apply qE|apply qF|(apply qG;decide)|apply qH|apply qI|apply qJ|apply qK|((first|apply qL|apply qM|apply qN|apply qO|((first|apply qP|apply qQ);decide +kernel));(conv=>lhs;simp only[go_sem, ibin, ishift])<;>rfl)|((first|apply qR|apply qS);(conv=>lhs;simp only[go_sem])<;>rfl;rfl)|((first|apply qT|apply qU);(conv=>lhs;simp only[go_sem])<;>rfl;rfl)|apply qV|apply qW|apply qX|apply qY|apply qZ)
  (with_reducible((first|apply pA|apply pB|apply pC|apply pD|apply pE|((first|apply pF|apply pG);decide +kernel));(conv=>lhs;simp only[go_sem, ibin, ishift, ww, wg, q1, q2, q3, q4, q5, q6, q7, hG4])<;>rfl))
  refine CK_lend [7, 3] (same_spec c.toTabR (G.take w.length) w (by rw [List.length_take]; omega)) rfl (by first | rfl | (simp only [go_sem, cN, hG4]; done) | (simp only [go_sem, cN, hG4] <;> rfl)) ?_
  rintro v h' ⟨rfl, rfl⟩
  refine ⟨rfl, fun b hb => by simp at hb, ?_⟩
  rw [decide_eq_true hG3.symm]
  (with_reducible((first|apply pA|apply pB|apply pC|apply pD|apply pE|((first|apply pF|apply pG);decide +kernel));(conv=>lhs;simp only[go_sem, ibin, ishift, ww, wg, q1, q2, q3, q4, q5, q6, q7, hG4, Int.le_refl, Nat.le_refl])<;>rfl))
  refine CK_lend [7] (same_spec c.toTabR ((G.drop w.length).take (G.length - w.length)) (L.take (G.length - w.length)) (by rw [List.length_take]; omega)) rfl (by first | rfl | (simp only [go_sem, cN, show w.length + (G.length - w.length) ≤ G.length by omega]; done) | (simp only [go_sem, cN, show w.length + (G.length - w.length) ≤ G.length by omega] <;> rfl)) ?_
  rintro v h' ⟨rfl, rfl⟩
  refine ⟨rfl, fun b hb => by simp at hb, ?_⟩
  rw [decide_eq_true (show (G.drop w.length).take (G.length - w.length) = L.take (G.length - w.length) by rw [hGd, List.take_take, Nat.min_self])]
  (with_reducible((first|apply WO2_finw|apply WO2_fina);(conv=>lhs;simp only[go_sem, ibin, ishift])<;>rfl))
  (repeat' with_reducible first |apply qA|apply qB|apply qC|apply qD|apply qE|apply qF|(apply qG;decide)|apply qH|apply qI|apply qJ|apply qK|((first|apply qL|apply qM|apply qN|apply qO|((first|apply qP|apply qQ);decide +kernel));(conv=>lhs;simp only[go_sem, ibin, ishift])<;>rfl)|((first|apply qR|apply qS);(conv=>lhs;simp only[go_sem])<;>rfl;rfl)|((first|apply qT|apply qU);(conv=>lhs;simp only[go_sem])<;>rfl;rfl)|apply qV|apply qW|apply qX|apply qY|apply qZ)
  refine W2.wview [4, 5, 6, 7] (by decide) rfl (by (conv => lhs; simp only [go_sem, ibin, ishift]) <;> with_reducible rfl) (by (conv => lhs; simp only [go_sem, ibin, ishift]) <;> with_reducible rfl) ?_
  (with_reducible((first|apply pA|apply pB|apply pC|apply pD|apply pE|((first|apply pF|apply pG);decide +kernel));(conv=>lhs;simp only[go_sem, ibin, ishift])<;>rfl))
  refine CK_call [0, 1, 2] hrp (by decide) (by simp) rfl rfl (by first | rfl | (simp only [go_sem, ci]; done) | (simp only [go_sem, ci] <;> rfl)) ?_
  rintro v h' ⟨rfl, rfl⟩
  have hn3 : p3.now = encsB G := hS3.now
  have hr3 : ReadR p3.now G := by rw [hn3]; exact readR_encs hG.1
  have hra3 := tread_spec c.toTabT p3 G hr3 (by have := hS3.l1; omega)
  have hq := hS3.append (encsB G).length []
  have hl3 := hS3.l1
  rw [hn3] at hl3
  rw [append_free rfl rfl (by simp) rfl (by simp only [encsB, List.flatMap_nil, List.length_nil]; exact hl3)] at hq
  have han := append_nil c.toTabT p3 G hr3 (by rw [hn3]; omega)
  generalize p3.append (encsB G).length [] = q at hq han
  obtain ⟨p4, e⟩ := q
  simp only at hq han
  obtain ⟨rfl, hS4⟩ := hq
  have hn4 : p4.now = encsB G := by rw [hS4.now]; simp [encsB]
  have hr4 : ReadR p4.now G := by rw [hn4]; exact readR_encs hG.1
  have hrp4 := repair_spec c.toTabT p4 G hr4 (by rw [hn4]; omega)
  have hq := hS4.repair (encsB G).length (by simp [encsB])
  rw [show encsB G ++ encsB [] = encsB G by simp [encsB]] at hq
  rw [repair_free rfl rfl (readR_encs hG.1)] at hq
  generalize p4.repair (encsB G).length = q at hq hrp4
  obtain ⟨p5, v5, e5⟩ := q
  simp only at hq hrp4
  obtain ⟨hwe5, hS5⟩ := hq
  have e1 : v5 = 0 := by
    have : v5 = ((encsB G).length : Int) - ((encsB G).length : Int) := congrArg Prod.fst hwe5
    omega
  have e2 : e5 = 0 := congrArg Prod.snd hwe5
  subst e1 e2
  unfold Tp.h Tp.o at hra3 han hrp4
  (with_reducible((first|apply WO2_finw|apply WO2_fina);(conv=>lhs;simp only[go_sem, ibin, ishift])<;>rfl))
  (repeat' with_reducible first |apply qA|apply qB|apply qC|apply qD|apply qE|apply qF|(apply qG;decide)|apply qH|apply qI|apply qJ|apply qK|((first|apply qL|apply qM|apply qN|apply qO|((first|apply qP|apply qQ);decide +kernel));(conv=>lhs;simp only[go_sem, ibin, ishift])<;>rfl)|((first|apply qR|apply qS);(conv=>lhs;simp only[go_sem])<;>rfl;rfl)|((first|apply qT|apply qU);(conv=>lhs;simp only[go_sem])<;>rfl;rfl)|apply qV|apply qW|apply qX|apply qY|apply qZ)
  (with_reducible((first|apply pA|apply pB|apply pC|apply pD|apply pE|((first|apply pF|apply pG);decide +kernel));(conv=>lhs;simp only[go_sem, ibin, ishift])<;>rfl))
  refine CK_call [0, 1, 2] hra3 (by decide) (by simp) rfl rfl (by first | rfl | (simp only [go_sem, ci]; done) | (simp only [go_sem, ci] <;> rfl)) ?_
  rintro v h' ⟨rfl, rfl⟩
  (with_reducible((first|apply pA|apply pB|apply pC|apply pD|apply pE|((first|apply pF|apply pG);decide +kernel));(conv=>lhs;simp only[go_sem, ibin, ishift])<;>rfl))
  refine CK_lend [4, 3] (same_spec c.toTabR G G (by omega)) rfl (by first | rfl | (simp only [go_sem, cN]; done) | (simp only [go_sem, cN] <;> rfl)) ?_
  rintro v h' ⟨rfl, rfl⟩
  refine ⟨rfl, fun b hb => by simp at hb, ?_⟩
  rw [decide_eq_true rfl]
  (with_reducible((first|apply pA|apply pB|apply pC|apply pD|apply pE|((first|apply pF|apply pG);decide +kernel));(conv=>lhs;simp only[go_sem, ibin, ishift])<;>rfl))
  refine CK_call [0, 1, 2] han (by decide) (by simp) rfl rfl (by first | rfl | (simp only [go_sem, ci]; done) | (simp only [go_sem, ci] <;> rfl)) ?_
  rintro v h' ⟨rfl, rfl⟩
  (with_reducible((first|apply WO2_finw|apply WO2_fina);(conv=>lhs;simp only[go_sem, ibin, ishift])<;>rfl))
  (repeat' with_reducible first |apply qA|apply qB|apply qC|apply qD|apply qE|apply qF|(apply qG;decide)|apply qH|apply qI|apply qJ|apply qK|((first|apply qL|apply qM|apply qN|apply qO|((first|apply qP|apply qQ);decide +kernel));(conv=>lhs;simp only[go_sem, ibin, ishift])<;>rfl)|((first|apply qR|apply qS);(conv=>lhs;simp only[go_sem])<;>rfl;rfl)|((first|apply qT|apply qU);(conv=>lhs;simp only[go_sem])<;>rfl;rfl)|apply qV|apply qW|apply qX|apply qY|apply qZ)
  (with_reducible((first|apply pA|apply pB|apply pC|apply pD|apply pE|((first|apply pF|apply pG);decide +kernel));(conv=>lhs;simp only[go_sem, ibin, ishift])<;>rfl))
  refine CK_call [0, 1, 2] hrp4 (by decide) (by simp) rfl rfl (by first | rfl | (simp only [go_sem, ci]; done) | (simp only [go_sem, ci] <;> rfl)) ?_
  rintro v h' ⟨rfl, rfl⟩
  (with_reducible((first|apply WO2_finw|apply WO2_fina);(conv=>lhs;simp only[go_sem, ibin, ishift])<;>rfl))
  (repeat' with_reducible first |apply qA|apply qB|apply qC|apply qD|apply qE|apply qF|(apply qG;decide)|apply qH|apply qI|apply qJ|apply qK|((first|apply qL|apply qM|apply qN|apply qO|((first|apply qP|apply qQ);decide +kernel));(conv=>lhs;simp only[go_sem, ibin, ishift])<;>rfl)|((first|apply qR|apply qS);(conv=>lhs;simp only[go_sem])<;>rfl;rfl)|((first|apply qT|apply qU);(conv=>lhs;simp only[go_sem])<;>rfl;rfl)|apply qV|apply qW|apply qX|apply qY|apply qZ)
  refine ⟨by first | exact .inr rfl | exact .inl rfl, _, _, (by (conv => lhs; simp only [go_sem, ibin, ishift]) <;> with_reducible rfl), (by (conv => lhs; simp only [go_sem, ibin, ishift]) <;> with_reducible rfl), ?_⟩
  refine ⟨[], by decide, rfl, ?_⟩
  rfl
end Go.Proofs.Ytfmkomjflhifnaa.Ab
