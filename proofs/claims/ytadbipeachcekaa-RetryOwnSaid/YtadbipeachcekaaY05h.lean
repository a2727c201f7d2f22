/- Chapter 05: RetryTimes. -/
import Derived.Test.YtadbipeachcekaaY05g
namespace Go.Proofs.Ytadbipeachcekaa.Ab
open Go
set_option linter.unusedVariables false
set_option linter.unusedSimpArgs false
variable {T : AT}
structure TabL (T : AT) : Prop extends TabS T where
  awake : T i_stillagelaw05_awake = some (.spec (always (.b true)))
theorem always_spec {f : Nat} (hT : T f = some (.spec (always (.b true)))) : Ret2 T 0 f [] [] (fun v h' => v = .b true ∧ h' = []) := always2 hT
theorem umod (x : Int) (k : Nat) (hk : 0 < k) (hk2 : k ≤ 100000) : ∃ v : Nat, IntKind.i64.wrap ((IntKind.u64.wrap x).tmod (k : Int)) = (v : Int) ∧ v < k := by
  have e : IntKind.u64.wrap x = x % 18446744073709551616 := rfl
  have h0 : 0 ≤ x % 18446744073709551616 := Int.emod_nonneg _ (by decide)
  have h1 := Int.emod_nonneg (x % 18446744073709551616) (show (k : Int) ≠ 0 by omega)
  have h2 := Int.emod_lt_of_pos (x % 18446744073709551616) (show (0 : Int) < k by omega)
  refine ⟨(x % 18446744073709551616 % (k : Int)).toNat, ?_, by omega⟩
  rw [e, Int.tmod_eq_emod_of_nonneg h0, wi _ (by omega) (by omega)]
  omega
theorem args_nil1 (w : Wd) (n : Nat) (ca : List AV) (h : P2 (RS w n) [.ptr 0 0, .nils] ca) : P2 (RS w n) [.ptr 0 0, .fz 1 (([] : List UInt8).map c8)] ca := by
  refine ⟨h.1, fun j x y hx hy => ?_⟩
  match j, hx with
  | 0, hx => exact h.2 0 x y hx hy
  | 1, hx =>
    have h1 := h.2 1 .nils y rfl hy
    simp only [List.getElem?_cons_succ, List.getElem?_cons_zero, Option.some.injEq] at hx
    subst hx
    cases h1 with
    | p h2 => cases h2; exact .p (.fz0 1)
  | j + 2, hx => simp at hx
theorem Ret2.args {k f : Nat} {args args' : List SV} {h : SH} {R : SV → SH → Prop} (H : Ret2 T k f args h R) (ha : ∀ w n ca, P2 (RS w n) args' ca → P2 (RS w n) args ca) : Ret2 T k f args' h R := ⟨fun w ca ch r hp => H.run w ca ch r (ha w _ ca hp)⟩
theorem put_nil (c : TabS T) (s : Sn) (hl : s.opn.length ≤ 100000) : Ret2 T 1 i_retry_Sender_Put [.ptr 0 0, .nils] s.h (fun v h' => v = .tup [.i .u16 (s.put []).2.1, .i .i64 (s.put []).2.2] ∧ h' = (s.put []).1.h) :=
  (put_spec c s hl [] (by decide)).args args_nil1
theorem tick_nil (w p t n : Int) : (Sn.mk w p t n [] false).tick = (Sn.mk w p t n [] false, [], 0) := rfl
theorem tick_one (w p t n : Int) (x : Pc) (h : ¬waits p x) (ht : x.sent ≠ t) : (Sn.mk w p t n [x] false).tick = (Sn.mk w p t n [x.go] false, [x.out], 0) := by
  simp only [Sn.tick, tk, if_neg h, if_neg ht, Bool.false_eq_true, if_false]
theorem tick_wait (w p t n : Int) (x : Pc) (h : waits p x) : (Sn.mk w p t n [x] false).tick = (Sn.mk w p t n [x.age] false, [], 0) := by
  simp only [Sn.tick, tk, if_pos h, Bool.false_eq_true, if_false]
theorem tick_dead (w p t n : Int) (x : Pc) (h : ¬waits p x) (ht : x.sent = t) : (Sn.mk w p t n [x] false).tick = (Sn.mk w p t n [x.age] true, [], 190) := by
  simp only [Sn.tick, tk, if_neg h, if_pos ht, Bool.false_eq_true, if_false, if_true]
theorem retryTimes_law (c : TabL T) (hT : T i_stillagelaw05_RetryTimes = some (.fn c_stillagelaw05_RetryTimes)) (a b d : Int) : Ret2 T 0 i_stillagelaw05_RetryTimes [.i .i64 a, .i .i64 b, .i .i64 d] [] (fun v h' => v = .b true) := by
  refine Ret2_fnv hT rfl rfl ?_
  obtain ⟨p, hp, hp1⟩ := umod a 20 (by decide) (by decide)
  obtain ⟨t, ht, ht1⟩ := umod b 20 (by decide) (by decide)
  obtain ⟨n, hn, hn1⟩ := umod d 30 (by decide) (by decide)
  have hp : IntKind.i64.wrap ((IntKind.u64.wrap a).tmod 20) = (p : Int) := hp
  have ht : IntKind.i64.wrap ((IntKind.u64.wrap b).tmod 20) = (t : Int) := ht
  have hn : IntKind.i64.wrap ((IntKind.u64.wrap d).tmod 30) = (n : Int) := hn
  have wp := wS (show p < 9223372036854775807 by omega)
  have wt := wS (show t < 9223372036854775807 by omega)
  (repeat' with_reducible first |apply qA|apply qB|apply qC|apply qD|apply qE|apply qF|(apply qG;decide)|apply qH|apply qI|apply qJ|apply qK|((first|apply qL|apply qM|apply qN|apply qO|((first|apply qP|apply qQ);decide +kernel));(conv=>lhs;simp only[go_sem, ibin, ishift])<;>rfl)|((first|apply qR|apply qS);(conv=>lhs;simp only[go_sem])<;>rfl;rfl)|((first|apply qT|apply qU);(conv=>lhs;simp only[go_sem])<;>rfl;rfl)|apply qV|apply qW|apply qX|apply qY|apply qZ)
  (with_reducible((first|apply pA|apply pB|apply pC|apply pD|apply pE|((first|apply pF|apply pG);decide +kernel));(conv=>lhs;simp only[go_sem, ibin, ishift])<;>rfl))
  refine CK_pure (always_spec c.awake) rfl ?_
  rintro v h' ⟨rfl, rfl⟩
  (with_reducible((first|apply WO2_finw|apply WO2_fina);(conv=>lhs;simp only[go_sem, ibin, ishift])<;>rfl))
  (repeat' with_reducible first |apply qA|apply qB|apply qC|apply qD|apply qE|apply qF|(apply qG;decide)|apply qH|apply qI|apply qJ|apply qK|((first|apply qL|apply qM|apply qN|apply qO|((first|apply qP|apply qQ);decide +kernel));(conv=>lhs;simp only[go_sem, ibin, ishift, hp, ht, hn, wp, wt])<;>rfl)|((first|apply qR|apply qS);(conv=>lhs;simp only[go_sem])<;>rfl;rfl)|((first|apply qT|apply qU);(conv=>lhs;simp only[go_sem])<;>rfl;rfl)|apply qV|apply qW|apply qX|apply qY|apply qZ)
  (with_reducible((first|apply pA|apply pB|apply pC|apply pD|apply pE|((first|apply pF|apply pG);decide +kernel));(conv=>lhs;simp only[go_sem, ibin, ishift])<;>rfl))
  refine CK_pure (new_spec c.toTabS 4 ((p + 1 : Nat) : Int) ((t + 1 : Nat) : Int) 65535) rfl ?_
  rintro v h' ⟨-, hv⟩
  obtain ⟨rfl, rfl⟩ := hv ⟨by omega, by omega, by omega⟩
  clear hv
  unfold Sn.h Sn.o
  (with_reducible((first|apply WO2_finw|apply WO2_fina);(conv=>lhs;simp only[go_sem, ibin, ishift])<;>rfl))
  (repeat' with_reducible first |apply qA|apply qB|apply qC|apply qD|apply qE|apply qF|(apply qG;decide)|apply qH|apply qI|apply qJ|apply qK|((first|apply qL|apply qM|apply qN|apply qO|((first|apply qP|apply qQ);decide +kernel));(conv=>lhs;simp only[go_sem, ibin, ishift])<;>rfl)|((first|apply qR|apply qS);(conv=>lhs;simp only[go_sem])<;>rfl;rfl)|((first|apply qT|apply qU);(conv=>lhs;simp only[go_sem])<;>rfl;rfl)|apply qV|apply qW|apply qX|apply qY|apply qZ)
  have hts := tick_spec c.toTabS (Sn.mk 4 ((p + 1 : Nat) : Int) ((t + 1 : Nat) : Int) 65535 [] false) (Nat.zero_le _) (by simp)
  rw [tick_nil] at hts
  unfold Sn.h Sn.o at hts
  simp only [List.map_nil, List.length_nil] at hts ⊢
  refine W2_loopu (fun m u g => ∃ j, j + m = n ∧ u = [(9, .i .i64 j)] ∧ g = []) n ⟨0, by omega, rfl, rfl⟩ rfl rfl ?_
  rintro m u g ⟨j, hj, rfl, rfl⟩
  intro e1 h1 he1 hh1; simp only [egd, supE, hgd, supH, Nat.reduceEqDiff, Nat.reduceAdd, if_true, if_false, reduceIte] at he1 hh1; subst he1; subst hh1
  by_cases hjn : j < n
  · have zj : decide (j < n) = true := decide_eq_true hjn
    have zji : decide ((j : Int) < (n : Int)) = true := decide_eq_true (by omega)
    have wj := wS (show j < 9223372036854775807 by omega)
    (repeat' with_reducible first |apply qA|apply qB|apply qC|apply qD|apply qE|apply qF|(apply qG;decide)|apply qH|apply qI|apply qJ|apply qK|((first|apply qL|apply qM|apply qN|apply qO|((first|apply qP|apply qQ);decide +kernel));(conv=>lhs;simp only[go_sem, ibin, ishift, zj, zji])<;>rfl)|((first|apply qR|apply qS);(conv=>lhs;simp only[go_sem])<;>rfl;rfl)|((first|apply qT|apply qU);(conv=>lhs;simp only[go_sem])<;>rfl;rfl)|apply qV|apply qW|apply qX|apply qY|apply qZ)
    (with_reducible((first|apply pA|apply pB|apply pC|apply pD|apply pE|((first|apply pF|apply pG);decide +kernel));(conv=>lhs;simp only[go_sem, ibin, ishift])<;>rfl))
    refine CK_call [0, 1] hts (by decide) (by simp) rfl rfl rfl ?_
    rintro v h' ⟨hv, -⟩
    obtain ⟨rfl, rfl⟩ := hv trivial
    clear hv
    (with_reducible((first|apply WO2_finw|apply WO2_fina);(conv=>lhs;simp only[go_sem, ibin, ishift])<;>rfl))
    (repeat' with_reducible first |apply qA|apply qB|apply qC|apply qD|apply qE|apply qF|(apply qG;decide)|apply qH|apply qI|apply qJ|apply qK|((first|apply qL|apply qM|apply qN|apply qO|((first|apply qP|apply qQ);decide +kernel));(conv=>lhs;simp only[go_sem, ibin, ishift, wj])<;>rfl)|((first|apply qR|apply qS);(conv=>lhs;simp only[go_sem])<;>rfl;rfl)|((first|apply qT|apply qU);(conv=>lhs;simp only[go_sem])<;>rfl;rfl)|apply qV|apply qW|apply qX|apply qY|apply qZ)
    refine ⟨[0, 1], by decide, rfl, ?_⟩
    exact ⟨n - (j + 1), _, _, by omega, ⟨j + 1, by omega, rfl, rfl⟩, rfl, (by first | rfl | ((conv => lhs; simp only [go_sem, ibin, ishift]) <;> rfl))⟩
  have zj : decide (j < n) = false := decide_eq_false hjn
  have zji : decide ((j : Int) < (n : Int)) = false := decide_eq_false (by omega)
  (repeat' with_reducible first |apply qA|apply qB|apply qC|apply qD|apply qE|apply qF|(apply qG;decide)|apply qH|apply qI|apply qJ|apply qK|((first|apply qL|apply qM|apply qN|apply qO|((first|apply qP|apply qQ);decide +kernel));(conv=>lhs;simp only[go_sem, ibin, ishift, zj, zji])<;>rfl)|((first|apply qR|apply qS);(conv=>lhs;simp only[go_sem])<;>rfl;rfl)|((first|apply qT|apply qU);(conv=>lhs;simp only[go_sem])<;>rfl;rfl)|apply qV|apply qW|apply qX|apply qY|apply qZ)
  (with_reducible((first|apply pA|apply pB|apply pC|apply pD|apply pE|((first|apply pF|apply pG);decide +kernel));(conv=>lhs;simp only[go_sem, ibin, ishift])<;>rfl))
  refine CK_frz 2 rfl (args' := [.ptr 0 0, .fz 1 (([112] : List UInt8).map c8)]) rfl (by (conv => lhs; simp only [go_sem, ibin, ishift]) <;> with_reducible rfl) (by (conv => lhs; simp only [go_sem, ibin, ishift]) <;> with_reducible rfl) ?_
  have hps := put_spec c.toTabS (Sn.mk 4 ((p + 1 : Nat) : Int) ((t + 1 : Nat) : Int) 65535 [] false) (Nat.zero_le _) [112] (by decide)
  rw [show (Sn.mk 4 ((p + 1 : Nat) : Int) ((t + 1 : Nat) : Int) 65535 [] false).put [112] = (Sn.mk 4 ((p + 1 : Nat) : Int) ((t + 1 : Nat) : Int) 0 [⟨65535, [112], 0, 0⟩] false, 65535, 0) from rfl] at hps
  unfold Sn.h Sn.o at hps
  simp only [List.map_nil, List.length_nil, List.map_cons, List.length_cons, Nat.zero_add] at hps
  refine CK_call [0, 1] hps (by decide) (by simp) rfl rfl rfl ?_
  rintro v h' ⟨rfl, rfl⟩
  (with_reducible((first|apply WO2_finw|apply WO2_fina);(conv=>lhs;simp only[go_sem, ibin, ishift])<;>rfl))
  (repeat' with_reducible first |apply qA|apply qB|apply qC|apply qD|apply qE|apply qF|(apply qG;decide)|apply qH|apply qI|apply qJ|apply qK|((first|apply qL|apply qM|apply qN|apply qO|((first|apply qP|apply qQ);decide +kernel));(conv=>lhs;simp only[go_sem, ibin, ishift])<;>rfl)|((first|apply qR|apply qS);(conv=>lhs;simp only[go_sem])<;>rfl;rfl)|((first|apply qT|apply qU);(conv=>lhs;simp only[go_sem])<;>rfl;rfl)|apply qV|apply qW|apply qX|apply qY|apply qZ)
  have hN : IntKind.i64.wrap (((p + 1 : Nat) : Int) * ((t + 1 : Nat) : Int)) = (((t + 1) * (p + 1) : Nat) : Int) := by
    have h1 : (t + 1) * (p + 1) ≤ 20 * 20 := Nat.mul_le_mul (by omega) (by omega)
    rw [← Int.natCast_mul, Nat.mul_comm (p + 1), wi _ (by omega) (by omega)]
  generalize hNN : (t + 1) * (p + 1) = N at hN
  have hN4 : N ≤ 400 := by
    rw [← hNN]; exact Nat.mul_le_mul (show t + 1 ≤ 20 by omega) (show p + 1 ≤ 20 by omega)
  refine W2_loopu (fun m u g => ∃ (i : Nat) (x : Pc), i + m = N ∧ x.seq = 65535 ∧ x.data = [112] ∧ ((i = 0 ∧ x.sent = 0 ∧ x.since = 0) ∨ ∃ q r : Nat, x.sent = ((q + 1 : Nat) : Int) ∧ x.since = (r : Int) ∧ r ≤ p ∧ i = q * (p + 1) + r + 1) ∧ u = [(14, .i .i64 i)] ∧ g = [(1, .arr 4 [cPc x])]) N ⟨0, ⟨65535, [112], 0, 0⟩, by omega, rfl, rfl, .inl ⟨rfl, rfl, rfl⟩, rfl, rfl⟩ rfl rfl ?_
  rintro m u g ⟨i, x, hi, hx1, hx2, hx3, rfl, rfl⟩
  intro e1 h1 he1 hh1; simp only [egd, supE, hgd, supH, Nat.reduceEqDiff, Nat.reduceAdd, if_true, if_false, reduceIte] at he1 hh1; subst he1; subst hh1
  have hmod : (i : Int).tmod ((p + 1 : Nat) : Int) = ((i % (p + 1) : Nat) : Int) := Int.ofNat_tmod i (p + 1)
  have hmw : IntKind.i64.wrap ((i % (p + 1) : Nat) : Int) = ((i % (p + 1) : Nat) : Int) := wi _ (by omega) (by have := Nat.mod_le i (p + 1); omega)
  have zp : ¬(((p + 1 : Nat) : Int) = 0) := by omega
  have hts := tick_spec c.toTabS (Sn.mk 4 ((p + 1 : Nat) : Int) ((t + 1 : Nat) : Int) 0 [x] false) (show 1 ≤ _ by decide) (by simp [hx2])
  by_cases hiN : i < N
  · have zi : decide ((i : Int) < (N : Int)) = true := decide_eq_true (by omega)
    have zin : decide (i < N) = true := decide_eq_true hiN
    have wi1 := wS (show i < 9223372036854775807 by omega)
    have hcase : (i % (p + 1) = 0 ∧ ¬waits ((p + 1 : Nat) : Int) x ∧ x.sent ≠ ((t + 1 : Nat) : Int) ∧ ∃ q : Nat, IntKind.i64.wrap (x.sent + 1) = ((q + 1 : Nat) : Int) ∧ i + 1 = q * (p + 1) + 0 + 1) ∨ (i % (p + 1) ≠ 0 ∧ waits ((p + 1 : Nat) : Int) x ∧ ∃ q r : Nat, x.sent = ((q + 1 : Nat) : Int) ∧ IntKind.i64.wrap (x.since + 1) = (r : Int) ∧ r ≤ p ∧ i + 1 = q * (p + 1) + r + 1) := by
      rcases hx3 with ⟨rfl, h1, h2⟩ | ⟨q, r, h1, h2, h3, h4⟩
      · exact .inl ⟨Nat.zero_mod _, fun h => by have := h.1; omega, by omega, 0, by rw [h1]; rfl, by omega⟩
      · have hwr : IntKind.i64.wrap (x.since + 1) = ((r + 1 : Nat) : Int) := by rw [h2, wi _ (by omega) (by omega)]; omega
        by_cases hrp : r = p
        · have h5 : i = (q + 1) * (p + 1) := by rw [h4, hrp, Nat.succ_mul]; omega
          have h6 : q + 1 < t + 1 := Nat.lt_of_mul_lt_mul_right (a := p + 1) (by rw [hNN, ← h5]; exact hiN)
          exact .inl ⟨by rw [h5, Nat.mul_mod_left], fun h => by have := h.2; rw [hwr] at this; omega, by omega, q + 1, by rw [h1, wi _ (by omega) (by omega)]; omega, by rw [h5]⟩
        · refine .inr ⟨?_, ⟨by omega, by rw [hwr]; omega⟩, q, r + 1, h1, hwr, by omega, by omega⟩
          rw [h4, Nat.add_assoc, Nat.mul_comm, Nat.mul_add_mod, Nat.mod_eq_of_lt (by omega)]
          omega
    rcases hcase with ⟨k1, k2, k3, q, k4, k5⟩ | ⟨k1, k2, q, r, k3, k4, k5, k6⟩
    · rw [tick_one _ _ _ _ _ k2 k3] at hts
      unfold Sn.h Sn.o at hts
      simp only [List.map_nil, List.length_nil, List.map_cons, List.length_cons, Nat.zero_add] at hts
      (repeat' with_reducible first |apply qA|apply qB|apply qC|apply qD|apply qE|apply qF|(apply qG;decide)|apply qH|apply qI|apply qJ|apply qK|((first|apply qL|apply qM|apply qN|apply qO|((first|apply qP|apply qQ);decide +kernel));(conv=>lhs;simp only[go_sem, ibin, ishift, zi, zin, hN])<;>rfl)|((first|apply qR|apply qS);(conv=>lhs;simp only[go_sem])<;>rfl;rfl)|((first|apply qT|apply qU);(conv=>lhs;simp only[go_sem])<;>rfl;rfl)|apply qV|apply qW|apply qX|apply qY|apply qZ)
      (with_reducible((first|apply pA|apply pB|apply pC|apply pD|apply pE|((first|apply pF|apply pG);decide +kernel));(conv=>lhs;simp only[go_sem, ibin, ishift])<;>rfl))
      refine CK_call [0, 1] hts (by decide) (by simp) rfl rfl rfl ?_
      rintro v h' ⟨hv, -⟩
      obtain ⟨rfl, rfl⟩ := hv trivial
      clear hv
      rw [k1] at hmod hmw
      (with_reducible((first|apply WO2_finw|apply WO2_fina);(conv=>lhs;simp only[go_sem, ibin, ishift])<;>rfl))
      (repeat' with_reducible first |apply qA|apply qB|apply qC|apply qD|apply qE|apply qF|(apply qG;decide)|apply qH|apply qI|apply qJ|apply qK|((first|apply qL|apply qM|apply qN|apply qO|((first|apply qP|apply qQ);decide +kernel));(conv=>lhs;simp only[go_sem, ibin, ishift, wi1, hmod, hmw, zp])<;>rfl)|((first|apply qR|apply qS);(conv=>lhs;simp only[go_sem])<;>rfl;rfl)|((first|apply qT|apply qU);(conv=>lhs;simp only[go_sem])<;>rfl;rfl)|apply qV|apply qW|apply qX|apply qY|apply qZ)
      refine ⟨[0, 1, 2], by decide, rfl, ?_⟩
      exact ⟨N - (i + 1), _, _, by omega, ⟨i + 1, x.go, by omega, hx1, hx2, .inr ⟨q, 0, k4, rfl, by omega, k5⟩, rfl, rfl⟩, rfl, (by first | rfl | ((conv => lhs; simp only [go_sem, ibin, ishift]) <;> rfl))⟩
    · rw [tick_wait _ _ _ _ _ k2] at hts
      unfold Sn.h Sn.o at hts
      simp only [List.map_nil, List.length_nil, List.map_cons, List.length_cons, Nat.zero_add] at hts
      have zm : decide (((i % (p + 1) : Nat) : Int) = 0) = false := decide_eq_false (by omega)
      have zmn : decide (i % (p + 1) = 0) = false := decide_eq_false k1
      (repeat' with_reducible first |apply qA|apply qB|apply qC|apply qD|apply qE|apply qF|(apply qG;decide)|apply qH|apply qI|apply qJ|apply qK|((first|apply qL|apply qM|apply qN|apply qO|((first|apply qP|apply qQ);decide +kernel));(conv=>lhs;simp only[go_sem, ibin, ishift, zi, zin, hN])<;>rfl)|((first|apply qR|apply qS);(conv=>lhs;simp only[go_sem])<;>rfl;rfl)|((first|apply qT|apply qU);(conv=>lhs;simp only[go_sem])<;>rfl;rfl)|apply qV|apply qW|apply qX|apply qY|apply qZ)
      (with_reducible((first|apply pA|apply pB|apply pC|apply pD|apply pE|((first|apply pF|apply pG);decide +kernel));(conv=>lhs;simp only[go_sem, ibin, ishift])<;>rfl))
      refine CK_call [0, 1] hts (by decide) (by simp) rfl rfl rfl ?_
      rintro v h' ⟨hv, -⟩
      obtain ⟨rfl, rfl⟩ := hv trivial
      clear hv
      (with_reducible((first|apply WO2_finw|apply WO2_fina);(conv=>lhs;simp only[go_sem, ibin, ishift])<;>rfl))
      (repeat' with_reducible first |apply qA|apply qB|apply qC|apply qD|apply qE|apply qF|(apply qG;decide)|apply qH|apply qI|apply qJ|apply qK|((first|apply qL|apply qM|apply qN|apply qO|((first|apply qP|apply qQ);decide +kernel));(conv=>lhs;simp only[go_sem, ibin, ishift, wi1, hmod, hmw, zp, zm, zmn])<;>rfl)|((first|apply qR|apply qS);(conv=>lhs;simp only[go_sem])<;>rfl;rfl)|((first|apply qT|apply qU);(conv=>lhs;simp only[go_sem])<;>rfl;rfl)|apply qV|apply qW|apply qX|apply qY|apply qZ)
      refine ⟨[0, 1, 2], by decide, rfl, ?_⟩
      exact ⟨N - (i + 1), _, _, by omega, ⟨i + 1, x.age, by omega, hx1, hx2, .inr ⟨q, r, k3, k4, k5, k6⟩, rfl, rfl⟩, rfl, (by first | rfl | ((conv => lhs; simp only [go_sem, ibin, ishift]) <;> rfl))⟩
  have zi : decide ((i : Int) < (N : Int)) = false := decide_eq_false (by omega)
  have zin : decide (i < N) = false := decide_eq_false hiN
  have hend : ¬waits ((p + 1 : Nat) : Int) x ∧ x.sent = ((t + 1 : Nat) : Int) := by
    have hiN2 : i = N := by omega
    rcases hx3 with ⟨h0, h1, h2⟩ | ⟨q, r, h1, h2, h3, h4⟩
    · have : 0 < (t + 1) * (p + 1) := Nat.mul_pos (by omega) (by omega)
      omega
    · have h5 : q * (p + 1) < (t + 1) * (p + 1) := by omega
      have h6 : q < t + 1 := Nat.lt_of_mul_lt_mul_right h5
      by_cases h7 : q < t
      · have h8 : (q + 1) * (p + 1) ≤ t * (p + 1) := Nat.mul_le_mul_right _ h7
        rw [Nat.succ_mul] at h8 hNN
        omega
      · have h8 : q = t := by omega
        subst h8
        rw [Nat.succ_mul] at hNN
        refine ⟨fun h => ?_, h1⟩
        have := h.2
        rw [h2, wi _ (by omega) (by omega)] at this
        omega
  rw [tick_dead _ _ _ _ _ hend.1 hend.2] at hts
  unfold Sn.h Sn.o at hts
  simp only [List.map_nil, List.length_nil, List.map_cons, List.length_cons, Nat.zero_add] at hts
  (repeat' with_reducible first |apply qA|apply qB|apply qC|apply qD|apply qE|apply qF|(apply qG;decide)|apply qH|apply qI|apply qJ|apply qK|((first|apply qL|apply qM|apply qN|apply qO|((first|apply qP|apply qQ);decide +kernel));(conv=>lhs;simp only[go_sem, ibin, ishift, zi, zin, hN])<;>rfl)|((first|apply qR|apply qS);(conv=>lhs;simp only[go_sem])<;>rfl;rfl)|((first|apply qT|apply qU);(conv=>lhs;simp only[go_sem])<;>rfl;rfl)|apply qV|apply qW|apply qX|apply qY|apply qZ)
  (with_reducible((first|apply pA|apply pB|apply pC|apply pD|apply pE|((first|apply pF|apply pG);decide +kernel));(conv=>lhs;simp only[go_sem, ibin, ishift])<;>rfl))
  refine CK_call [0, 1] hts (by decide) (by simp) rfl rfl rfl ?_
  rintro v h' ⟨-, hv⟩
  obtain ⟨rfl, rfl⟩ := hv (by decide)
  clear hv hts
  have hps := put_nil c.toTabS (Sn.mk 4 ((p + 1 : Nat) : Int) ((t + 1 : Nat) : Int) 0 [x.age] true) (show 1 ≤ _ by decide)
  have has := ackTo_spec c.toTabS (Sn.mk 4 ((p + 1 : Nat) : Int) ((t + 1 : Nat) : Int) 0 [x.age] true) (show 1 ≤ _ by decide) 0
  have hds := dead_spec c.toTabS (Sn.mk 4 ((p + 1 : Nat) : Int) ((t + 1 : Nat) : Int) 0 [x.age] true)
  have hks := ack_spec c.toTabS (Sn.mk 4 ((p + 1 : Nat) : Int) ((t + 1 : Nat) : Int) 0 [x.age] true) (show 1 ≤ _ by decide) 65535
  rw [show (Sn.mk 4 ((p + 1 : Nat) : Int) ((t + 1 : Nat) : Int) 0 [x.age] true).put [] = (Sn.mk 4 ((p + 1 : Nat) : Int) ((t + 1 : Nat) : Int) 0 [x.age] true, 0, 190) from rfl] at hps
  rw [show (Sn.mk 4 ((p + 1 : Nat) : Int) ((t + 1 : Nat) : Int) 0 [x.age] true).ackTo 0 = (Sn.mk 4 ((p + 1 : Nat) : Int) ((t + 1 : Nat) : Int) 0 [x.age] true, 0, 190) from rfl] at has
  rw [show (Sn.mk 4 ((p + 1 : Nat) : Int) ((t + 1 : Nat) : Int) 0 [x.age] true).ack 65535 = (Sn.mk 4 ((p + 1 : Nat) : Int) ((t + 1 : Nat) : Int) 0 [x.age] true, 190) from rfl] at hks
  unfold Sn.h Sn.o at hps has hds hks
  simp only [List.map_nil, List.length_nil, List.map_cons, List.length_cons, Nat.zero_add] at hps has hds hks
  (with_reducible((first|apply WO2_finw|apply WO2_fina);(conv=>lhs;simp only[go_sem, ibin, ishift])<;>rfl))
  (repeat' with_reducible first |apply qA|apply qB|apply qC|apply qD|apply qE|apply qF|(apply qG;decide)|apply qH|apply qI|apply qJ|apply qK|((first|apply qL|apply qM|apply qN|apply qO|((first|apply qP|apply qQ);decide +kernel));(conv=>lhs;simp only[go_sem, ibin, ishift])<;>rfl)|((first|apply qR|apply qS);(conv=>lhs;simp only[go_sem])<;>rfl;rfl)|((first|apply qT|apply qU);(conv=>lhs;simp only[go_sem])<;>rfl;rfl)|apply qV|apply qW|apply qX|apply qY|apply qZ)
  (with_reducible((first|apply pA|apply pB|apply pC|apply pD|apply pE|((first|apply pF|apply pG);decide +kernel));(conv=>lhs;simp only[go_sem, ibin, ishift])<;>rfl))
  refine CK_call [0, 1] hps (by decide) (by simp) rfl rfl rfl ?_
  rintro v h' ⟨rfl, rfl⟩
  (with_reducible((first|apply WO2_finw|apply WO2_fina);(conv=>lhs;simp only[go_sem, ibin, ishift])<;>rfl))
  (repeat' with_reducible first |apply qA|apply qB|apply qC|apply qD|apply qE|apply qF|(apply qG;decide)|apply qH|apply qI|apply qJ|apply qK|((first|apply qL|apply qM|apply qN|apply qO|((first|apply qP|apply qQ);decide +kernel));(conv=>lhs;simp only[go_sem, ibin, ishift])<;>rfl)|((first|apply qR|apply qS);(conv=>lhs;simp only[go_sem])<;>rfl;rfl)|((first|apply qT|apply qU);(conv=>lhs;simp only[go_sem])<;>rfl;rfl)|apply qV|apply qW|apply qX|apply qY|apply qZ)
  (with_reducible((first|apply pA|apply pB|apply pC|apply pD|apply pE|((first|apply pF|apply pG);decide +kernel));(conv=>lhs;simp only[go_sem, ibin, ishift])<;>rfl))
  refine CK_call [0, 1] has (by decide) (by simp) rfl rfl rfl ?_
  rintro v h' ⟨rfl, rfl⟩
  (with_reducible((first|apply WO2_finw|apply WO2_fina);(conv=>lhs;simp only[go_sem, ibin, ishift])<;>rfl))
  (repeat' with_reducible first |apply qA|apply qB|apply qC|apply qD|apply qE|apply qF|(apply qG;decide)|apply qH|apply qI|apply qJ|apply qK|((first|apply qL|apply qM|apply qN|apply qO|((first|apply qP|apply qQ);decide +kernel));(conv=>lhs;simp only[go_sem, ibin, ishift])<;>rfl)|((first|apply qR|apply qS);(conv=>lhs;simp only[go_sem])<;>rfl;rfl)|((first|apply qT|apply qU);(conv=>lhs;simp only[go_sem])<;>rfl;rfl)|apply qV|apply qW|apply qX|apply qY|apply qZ)
  (with_reducible((first|apply pA|apply pB|apply pC|apply pD|apply pE|((first|apply pF|apply pG);decide +kernel));(conv=>lhs;simp only[go_sem, ibin, ishift])<;>rfl))
  refine CK_call [0, 1] hds (by decide) (by simp) rfl rfl rfl ?_
  rintro v h' ⟨rfl, rfl⟩
  (with_reducible((first|apply pA|apply pB|apply pC|apply pD|apply pE|((first|apply pF|apply pG);decide +kernel));(conv=>lhs;simp only[go_sem, ibin, ishift])<;>rfl))
  refine CK_call [0, 1] hks (by decide) (by simp) rfl rfl rfl ?_
  rintro v h' ⟨rfl, rfl⟩
  (with_reducible((first|apply WO2_finw|apply WO2_fina);(conv=>lhs;simp only[go_sem, ibin, ishift])<;>rfl))
  (repeat' with_reducible first |apply qA|apply qB|apply qC|apply qD|apply qE|apply qF|(apply qG;decide)|apply qH|apply qI|apply qJ|apply qK|((first|apply qL|apply qM|apply qN|apply qO|((first|apply qP|apply qQ);decide +kernel));(conv=>lhs;simp only[go_sem, ibin, ishift])<;>rfl)|((first|apply qR|apply qS);(conv=>lhs;simp only[go_sem])<;>rfl;rfl)|((first|apply qT|apply qU);(conv=>lhs;simp only[go_sem])<;>rfl;rfl)|apply qV|apply qW|apply qX|apply qY|apply qZ)
  refine ⟨by first | exact .inr rfl | exact .inl rfl, _, _, (by (conv => lhs; simp only [go_sem, ibin, ishift]) <;> with_reducible rfl), (by (conv => lhs; simp only [go_sem, ibin, ishift]) <;> with_reducible rfl), ?_⟩
  refine ⟨[], by decide, rfl, ?_⟩
  rfl
end Go.Proofs.Ytadbipeachcekaa.Ab
