/- Chapter 05: RetryOwn. -/
import Derived.Test.YtadbipeachcekaaY05q
namespace Go.Proofs.Ytadbipeachcekaa.Ab
open Go
set_option linter.unusedVariables false
set_option linter.unusedSimpArgs false
variable {T : AT}
/-- a number more in a byte -/
theorem inc8 (x : UInt8) : ∃ y : UInt8, IntKind.u8.wrap ((x.toNat : Int) + 1) = (y.toNat : Int) := by
  refine ⟨UInt8.ofNat (x.toNat + 1), ?_⟩
  rw [UInt8.toNat_ofNat', show IntKind.u8.wrap ((x.toNat : Int) + 1) = ((x.toNat : Int) + 1) % 256 from rfl]
  omega
theorem retryOwn_nil (c : TabA T) (hT : T i_stillagelaw05_RetryOwn = some (.fn c_stillagelaw05_RetryOwn)) (hw hp ht f : Int) (hf0 : 0 ≤ f) (hf1 : f < 65536) : Ret2 T 0 i_stillagelaw05_RetryOwn [.agg [.i .i64 hw, .i .i64 hp, .i .i64 ht, .i .u16 f], .fz 1 []] [] (fun v h' => v = .b true) := by
  refine Ret2_fnv hT rfl rfl ?_
  (repeat' with_reducible first |apply qA|apply qB|apply qC|apply qD|apply qE|apply qF|(apply qG;decide)|apply qH|apply qI|apply qJ|apply qK|((first|apply qL|apply qM|apply qN|apply qO|((first|apply qP|apply qQ);decide +kernel));(conv=>lhs;simp only[go_sem, ibin, ishift])<;>rfl)|((first|apply qR|apply qS);(conv=>lhs;simp only[go_sem])<;>rfl;rfl)|((first|apply qT|apply qU);(conv=>lhs;simp only[go_sem])<;>rfl;rfl)|apply qV|apply qW|apply qX|apply qY|apply qZ)
  (with_reducible((first|apply pA|apply pB|apply pC|apply pD|apply pE|((first|apply pF|apply pG);decide +kernel));(conv=>lhs;simp only[go_sem, ibin, ishift])<;>rfl))
  refine CK_pure (always_spec c.awake) rfl ?_
  rintro v h' ⟨rfl, rfl⟩
  have hnw := new_spec c.toTabS 3 1 9 f
  have hks : okSet 3 1 9 := ⟨by omega, by omega, by omega⟩
  unfold Sn.h Sn.o at hnw
  simp only [List.map_nil, List.length_nil] at hnw
  have hps := put_spec c.toTabS (Sn.mk 3 1 9 f [] false) (Nat.zero_le _) [] (Nat.zero_le _)
  rw [show (Sn.mk 3 1 9 f [] false).put [] = (Sn.mk 3 1 9 (IntKind.u16.wrap (f + 1)) [⟨f, [], 0, 0⟩] false, IntKind.u16.wrap (IntKind.u16.wrap (f + 1) - 1), 0) from rfl] at hps
  unfold Sn.h Sn.o at hps
  simp only [List.map_nil, List.length_nil, List.map_cons, List.length_cons, Nat.zero_add] at hps
  have hts : ∀ k : Int, k = 0 ∨ k = 1 ∨ k = 2 → Ret2 T 2 i_retry_Sender_Tick [.ptr 0 0] [some (.obj [.i .i64 3, .i .i64 1, .i .i64 9, .i .u16 (IntKind.u16.wrap (f + 1)), .sl 4 1 0 1 none, .b false]), some (.arr 4 [cPc ⟨f, [], k, 0⟩])] (fun v h' => v = .tup [.sl 2 2 0 1 none, .i .i64 0] ∧ h' = [some (.obj [.i .i64 3, .i .i64 1, .i .i64 9, .i .u16 (IntKind.u16.wrap (f + 1)), .sl 4 1 0 1 none, .b false]), some (.arr 4 [cPc ⟨f, [], k + 1, 0⟩]), some (.arr 2 [[.i .u16 f, .fz 1 []]])]) := fun k hk => by
    have h1 := tick_spec c.toTabS (Sn.mk 3 1 9 (IntKind.u16.wrap (f + 1)) [⟨f, [], k, 0⟩] false) (show 1 ≤ _ by decide) (by simp)
    rw [tick_one 3 1 9 _ _ (fun h => by have := h.2; simp only [show IntKind.i64.wrap (0 + 1) = 1 from rfl] at this; omega) (show ¬(k = 9) by omega)] at h1
    have hwk : IntKind.i64.wrap (k + 1) = k + 1 := wi _ (by omega) (by omega)
    simp only [Pc.go, Pc.out, hwk] at h1
    exact h1.mono fun v h' hv => hv.1 trivial
  have hos : ∀ k : Int, Ret2 T 2 i_retry_Sender_Open [.ptr 0 0] [some (.obj [.i .i64 3, .i .i64 1, .i .i64 9, .i .u16 (IntKind.u16.wrap (f + 1)), .sl 4 1 0 1 none, .b false]), some (.arr 4 [cPc ⟨f, [], k, 0⟩])] (fun v h' => v = .sl 1 2 0 1 none ∧ h' = [some (.obj [.i .i64 3, .i .i64 1, .i .i64 9, .i .u16 (IntKind.u16.wrap (f + 1)), .sl 4 1 0 1 none, .b false]), some (.arr 4 [cPc ⟨f, [], k, 0⟩]), some (.arr 1 [[.i .u16 f]])]) := fun k => open_spec c.toTabS (Sn.mk 3 1 9 (IntKind.u16.wrap (f + 1)) [⟨f, [], k, 0⟩] false) (show 1 ≤ _ by decide)
  (with_reducible((first|apply WO2_finw|apply WO2_fina);(conv=>lhs;simp only[go_sem, ibin, ishift])<;>rfl))
  (repeat' with_reducible first |apply qA|apply qB|apply qC|apply qD|apply qE|apply qF|(apply qG;decide)|apply qH|apply qI|apply qJ|apply qK|((first|apply qL|apply qM|apply qN|apply qO|((first|apply qP|apply qQ);decide +kernel));(conv=>lhs;simp only[go_sem, ibin, ishift])<;>rfl)|((first|apply qR|apply qS);(conv=>lhs;simp only[go_sem])<;>rfl;rfl)|((first|apply qT|apply qU);(conv=>lhs;simp only[go_sem])<;>rfl;rfl)|apply qV|apply qW|apply qX|apply qY|apply qZ)
  (with_reducible((first|apply pA|apply pB|apply pC|apply pD|apply pE|((first|apply pF|apply pG);decide +kernel));(conv=>lhs;simp only[go_sem, ibin, ishift])<;>rfl))
  refine CK_pure hnw rfl ?_
  rintro v h' ⟨-, hv⟩
  obtain ⟨rfl, rfl⟩ := hv hks
  clear hv hnw
  have h16 : 0 ≤ room := Nat.zero_le _
  (with_reducible((first|apply WO2_finw|apply WO2_fina);(conv=>lhs;simp only[go_sem, ibin, ishift])<;>rfl))
  (repeat' with_reducible first |apply qA|apply qB|apply qC|apply qD|apply qE|apply qF|(apply qG;decide)|apply qH|apply qI|apply qJ|apply qK|((first|apply qL|apply qM|apply qN|apply qO|((first|apply qP|apply qQ);decide +kernel));(conv=>lhs;simp only[go_sem, ibin, ishift, h16])<;>rfl)|((first|apply qR|apply qS);(conv=>lhs;simp only[go_sem])<;>rfl;rfl)|((first|apply qT|apply qU);(conv=>lhs;simp only[go_sem])<;>rfl;rfl)|apply qV|apply qW|apply qX|apply qY|apply qZ)
  (with_reducible((first|apply pA|apply pB|apply pC|apply pD|apply pE|((first|apply pF|apply pG);decide +kernel));(conv=>lhs;simp only[go_sem, ibin, ishift])<;>rfl))
  refine CK_frz 4 rfl (args' := [.ptr 1 0, .fz 1 []]) rfl (by (conv => lhs; simp only [go_sem, ibin, ishift]) <;> with_reducible rfl) (by (conv => lhs; simp only [go_sem, ibin, ishift]) <;> with_reducible rfl) ?_
  refine CK_call [1, 2] hps (by decide) (by simp) rfl rfl rfl ?_
  rintro v h' ⟨rfl, rfl⟩
  (with_reducible((first|apply WO2_finw|apply WO2_fina);(conv=>lhs;simp only[go_sem, ibin, ishift])<;>rfl))
  ((repeat' with_reducible first |apply qA|apply qB|apply qC|apply qD|apply qE|apply qF|(apply qG;decide)|apply qH|apply qI|apply qJ|apply qK|apply qX|((first|apply qR|apply qS);(conv=>lhs;simp only[go_sem])<;>rfl;rfl)|((first|apply qT|apply qU);(conv=>lhs;simp only[go_sem])<;>rfl;rfl)|apply qZ|apply qY|apply qW);with_reducible((first|apply qL|apply qM|apply qN|apply qO|((first|apply qP|apply qQ);decide +kernel));(conv=>lhs;simp only[go_sem, ibin, ishift])<;>rfl))
  (repeat' with_reducible first |apply qA|apply qB|apply qC|apply qD|apply qE|apply qF|(apply qG;decide)|apply qH|apply qI|apply qJ|apply qK|apply qX|((first|apply qR|apply qS);(conv=>lhs;simp only[go_sem])<;>rfl;rfl)|((first|apply qT|apply qU);(conv=>lhs;simp only[go_sem])<;>rfl;rfl)|apply qZ|apply qY|apply qW)
  refine W2_loopu (fun m u g => ∃ (k : Nat), k + m = 3 ∧ u = [(8, .i .i64 k)] ∧ g = [(2, .arr 4 [cPc ⟨f, [], k, 0⟩])]) 3 ⟨0, by omega, rfl, rfl⟩ rfl rfl ?_
  rintro m u g ⟨k, hk, rfl, rfl⟩
  intro e1 h1 he1 hh1; simp only [egd, supE, hgd, supH, Nat.reduceEqDiff, Nat.reduceAdd, if_true, if_false, reduceIte] at he1 hh1; subst he1; subst hh1
  by_cases hk3 : k < 3
  · have zk : decide (k < 3) = true := decide_eq_true hk3
    have zki : decide ((k : Int) < 3) = true := decide_eq_true (by omega)
    have wk1 := wS (show k < 9223372036854775807 by omega)
    have htk := hts (k : Int) (by omega)
    rw [show (k : Int) + 1 = ((k + 1 : Nat) : Int) from rfl] at htk
    (repeat' with_reducible first |apply qA|apply qB|apply qC|apply qD|apply qE|apply qF|(apply qG;decide)|apply qH|apply qI|apply qJ|apply qK|((first|apply qL|apply qM|apply qN|apply qO|((first|apply qP|apply qQ);decide +kernel));(conv=>lhs;simp only[go_sem, ibin, ishift, zk, zki])<;>rfl)|((first|apply qR|apply qS);(conv=>lhs;simp only[go_sem])<;>rfl;rfl)|((first|apply qT|apply qU);(conv=>lhs;simp only[go_sem])<;>rfl;rfl)|apply qV|apply qW|apply qX|apply qY|apply qZ)
    refine W2_loopu (fun m u g => u = [] ∧ g = []) 0 ⟨rfl, rfl⟩ rfl rfl ?_
    rintro m u g ⟨rfl, rfl⟩
    intro e1 h1 he1 hh1; simp only [egd, supE, hgd, supH, Nat.reduceEqDiff, Nat.reduceAdd, if_true, if_false, reduceIte] at he1 hh1; subst he1; subst hh1
    (repeat' with_reducible first |apply qA|apply qB|apply qC|apply qD|apply qE|apply qF|(apply qG;decide)|apply qH|apply qI|apply qJ|apply qK|((first|apply qL|apply qM|apply qN|apply qO|((first|apply qP|apply qQ);decide +kernel));(conv=>lhs;simp only[go_sem, ibin, ishift])<;>rfl)|((first|apply qR|apply qS);(conv=>lhs;simp only[go_sem])<;>rfl;rfl)|((first|apply qT|apply qU);(conv=>lhs;simp only[go_sem])<;>rfl;rfl)|apply qV|apply qW|apply qX|apply qY|apply qZ)
    (with_reducible((first|apply pA|apply pB|apply pC|apply pD|apply pE|((first|apply pF|apply pG);decide +kernel));(conv=>lhs;simp only[go_sem, ibin, ishift])<;>rfl))
    refine CK_call [1, 2] htk (by decide) (by simp) rfl rfl rfl ?_
    rintro v h' ⟨rfl, rfl⟩
    (with_reducible((first|apply WO2_finw|apply WO2_fina);(conv=>lhs;simp only[go_sem, ibin, ishift])<;>rfl))
    have hb0 : bytes2 [] = some [] := rfl
    (repeat' with_reducible first |apply qA|apply qB|apply qC|apply qD|apply qE|apply qF|(apply qG;decide)|apply qH|apply qI|apply qJ|apply qK|((first|apply qL|apply qM|apply qN|apply qO|((first|apply qP|apply qQ);decide +kernel));(conv=>lhs;simp only[go_sem, ibin, ishift, hb0])<;>rfl)|((first|apply qR|apply qS);(conv=>lhs;simp only[go_sem])<;>rfl;rfl)|((first|apply qT|apply qU);(conv=>lhs;simp only[go_sem])<;>rfl;rfl)|apply qV|apply qW|apply qX|apply qY|apply qZ)
    (with_reducible((first|apply pA|apply pB|apply pC|apply pD|apply pE|((first|apply pF|apply pG);decide +kernel));(conv=>lhs;simp only[go_sem, ibin, ishift])<;>rfl))
    refine CK_call [1, 2] (hos ((k + 1 : Nat) : Int)) (by decide) (by simp) rfl rfl rfl ?_
    rintro v h' ⟨rfl, rfl⟩
    (with_reducible((first|apply WO2_finw|apply WO2_fina);(conv=>lhs;simp only[go_sem, ibin, ishift])<;>rfl))
    (repeat' with_reducible first |apply qA|apply qB|apply qC|apply qD|apply qE|apply qF|(apply qG;decide)|apply qH|apply qI|apply qJ|apply qK|((first|apply qL|apply qM|apply qN|apply qO|((first|apply qP|apply qQ);decide +kernel));(conv=>lhs;simp only[go_sem, ibin, ishift])<;>rfl)|((first|apply qR|apply qS);(conv=>lhs;simp only[go_sem])<;>rfl;rfl)|((first|apply qT|apply qU);(conv=>lhs;simp only[go_sem])<;>rfl;rfl)|apply qV|apply qW|apply qX|apply qY|apply qZ)
    refine W2_loopu (fun m u g => ∃ (i : Nat) (z : Int), i + m = 1 ∧ u = [(86, .i .i64 i)] ∧ g = [(6, .arr 1 [[.i .u16 z]])]) 1 ⟨0, f, by omega, rfl, rfl⟩ rfl rfl ?_
    rintro m u g ⟨i, z, hi, rfl, rfl⟩
    intro e1 h1 he1 hh1; simp only [egd, supE, hgd, supH, Nat.reduceEqDiff, Nat.reduceAdd, if_true, if_false, reduceIte] at he1 hh1; subst he1; subst hh1
    by_cases hi0 : i = 0
    · subst hi0
      (repeat' with_reducible first |apply qA|apply qB|apply qC|apply qD|apply qE|apply qF|(apply qG;decide)|apply qH|apply qI|apply qJ|apply qK|((first|apply qL|apply qM|apply qN|apply qO|((first|apply qP|apply qQ);decide +kernel));(conv=>lhs;simp only[go_sem, ibin, ishift])<;>rfl)|((first|apply qR|apply qS);(conv=>lhs;simp only[go_sem])<;>rfl;rfl)|((first|apply qT|apply qU);(conv=>lhs;simp only[go_sem])<;>rfl;rfl)|apply qV|apply qW|apply qX|apply qY|apply qZ)
      refine ⟨[0, 1, 2, 3, 4, 5, 6], by decide, rfl, ?_⟩
      exact ⟨0, _, _, by omega, ⟨1, _, by omega, rfl, rfl⟩, rfl, (by first | rfl | ((conv => lhs; simp only [go_sem, ibin, ishift]) <;> rfl))⟩
    · have hi1 : i = 1 := by omega
      subst hi1
      (repeat' with_reducible first |apply qA|apply qB|apply qC|apply qD|apply qE|apply qF|(apply qG;decide)|apply qH|apply qI|apply qJ|apply qK|((first|apply qL|apply qM|apply qN|apply qO|((first|apply qP|apply qQ);decide +kernel));(conv=>lhs;simp only[go_sem, ibin, ishift, wk1])<;>rfl)|((first|apply qR|apply qS);(conv=>lhs;simp only[go_sem])<;>rfl;rfl)|((first|apply qT|apply qU);(conv=>lhs;simp only[go_sem])<;>rfl;rfl)|apply qV|apply qW|apply qX|apply qY|apply qZ)
      refine ⟨[0, 1, 2, 3, 4], by decide, rfl, ?_⟩
      exact ⟨3 - (k + 1), _, _, by omega, ⟨k + 1, by omega, rfl, rfl⟩, rfl, (by first | rfl | ((conv => lhs; simp only [go_sem, ibin, ishift]) <;> rfl))⟩
  · have zk : decide (k < 3) = false := decide_eq_false hk3
    have zki : decide ((k : Int) < 3) = false := decide_eq_false (by omega)
    (repeat' with_reducible first |apply qA|apply qB|apply qC|apply qD|apply qE|apply qF|(apply qG;decide)|apply qH|apply qI|apply qJ|apply qK|((first|apply qL|apply qM|apply qN|apply qO|((first|apply qP|apply qQ);decide +kernel));(conv=>lhs;simp only[go_sem, ibin, ishift, zk, zki])<;>rfl)|((first|apply qR|apply qS);(conv=>lhs;simp only[go_sem])<;>rfl;rfl)|((first|apply qT|apply qU);(conv=>lhs;simp only[go_sem])<;>rfl;rfl)|apply qV|apply qW|apply qX|apply qY|apply qZ)
    (repeat' with_reducible first |apply qA|apply qB|apply qC|apply qD|apply qE|apply qF|(apply qG;decide)|apply qH|apply qI|apply qJ|apply qK|apply qX|((first|apply qR|apply qS);(conv=>lhs;simp only[go_sem])<;>rfl;rfl)|((first|apply qT|apply qU);(conv=>lhs;simp only[go_sem])<;>rfl;rfl)|apply qZ|apply qY|apply qW)
    (with_reducible first | apply W2_sregH [0] [false, false, false, true, false] | apply W2_regH [0] [false, false, false, true, false])
    · decide
    · decide
    · rfl
    ((conv => lhs; simp only [go_sem, ibin, ishift]) <;> with_reducible rfl)
    refine EH_call [1, 2] (hos (k : Int)) (by decide) (by simp) rfl rfl rfl rfl ?_
    rintro v h' ⟨rfl, rfl⟩
    (with_reducible apply WOH_go (by decide); ((conv => lhs; simp only [go_sem, ibin, ishift]) <;> with_reducible rfl))
    refine EH_ck ?_
    refine CK_frz 5 rfl (args' := [.fz 1 (([f] : List Int).map cU), .sl 1 6 0 1 none]) rfl (by (conv => lhs; simp only [go_sem, ibin, ishift]) <;> with_reducible rfl) (by (conv => lhs; simp only [go_sem, ibin, ishift]) <;> with_reducible rfl) ?_
    refine CK_frz 6 rfl (args' := [.fz 1 (([f] : List Int).map cU), .fz 1 (([f] : List Int).map cU)]) rfl (by (conv => lhs; simp only [go_sem, ibin, ishift]) <;> with_reducible rfl) (by (conv => lhs; simp only [go_sem, ibin, ishift]) <;> with_reducible rfl) ?_
    refine CK_pure (same16_spec c [f] [f] (show 1 ≤ _ by decide)) rfl ?_
    rintro v h' ⟨rfl, rfl⟩
    rw [decide_eq_true rfl]
    (with_reducible((first|apply WO2_finw|apply WO2_fina);(conv=>lhs;simp only[go_sem, ibin, ishift])<;>rfl))
    (repeat' with_reducible first |apply qA|apply qB|apply qC|apply qD|apply qE|apply qF|(apply qG;decide)|apply qH|apply qI|apply qJ|apply qK|((first|apply qL|apply qM|apply qN|apply qO|((first|apply qP|apply qQ);decide +kernel));(conv=>lhs;simp only[go_sem, ibin, ishift])<;>rfl)|((first|apply qR|apply qS);(conv=>lhs;simp only[go_sem])<;>rfl;rfl)|((first|apply qT|apply qU);(conv=>lhs;simp only[go_sem])<;>rfl;rfl)|apply qV|apply qW|apply qX|apply qY|apply qZ)
    refine ⟨by first | exact .inr rfl | exact .inl rfl, _, _, (by (conv => lhs; simp only [go_sem, ibin, ishift]) <;> with_reducible rfl), (by (conv => lhs; simp only [go_sem, ibin, ishift]) <;> with_reducible rfl), ?_⟩
    refine ⟨[], by decide, rfl, ?_⟩
    rfl
theorem retryOwn_law (c : TabA T) (hT : T i_stillagelaw05_RetryOwn = some (.fn c_stillagelaw05_RetryOwn)) (hw hp ht f : Int) (hf0 : 0 ≤ f) (hf1 : f < 65536) (d : List UInt8) : Ret2 T 0 i_stillagelaw05_RetryOwn [.agg [.i .i64 hw, .i .i64 hp, .i .i64 ht, .i .u16 f], .fz 1 (d.map c8)] [] (fun v h' => v = .b true) := by
  by_cases hd0 : d = []
  · subst hd0
    exact retryOwn_nil c hT hw hp ht f hf0 hf1
  refine Ret2_fnv hT rfl rfl ?_
  (repeat' with_reducible first |apply qA|apply qB|apply qC|apply qD|apply qE|apply qF|(apply qG;decide)|apply qH|apply qI|apply qJ|apply qK|((first|apply qL|apply qM|apply qN|apply qO|((first|apply qP|apply qQ);decide +kernel));(conv=>lhs;simp only[go_sem, ibin, ishift])<;>rfl)|((first|apply qR|apply qS);(conv=>lhs;simp only[go_sem])<;>rfl;rfl)|((first|apply qT|apply qU);(conv=>lhs;simp only[go_sem])<;>rfl;rfl)|apply qV|apply qW|apply qX|apply qY|apply qZ)
  (with_reducible((first|apply pA|apply pB|apply pC|apply pD|apply pE|((first|apply pF|apply pG);decide +kernel));(conv=>lhs;simp only[go_sem, ibin, ishift])<;>rfl))
  refine CK_pure (always_spec c.awake) rfl ?_
  rintro v h' ⟨rfl, rfl⟩
  by_cases hlen : d.length > 256
  · have z1 : decide ((d.length : Int) > 256) = true := decide_eq_true (by omega)
    have z1n : decide (d.length > 256) = true := decide_eq_true hlen
    (with_reducible((first|apply WO2_finw|apply WO2_fina);(conv=>lhs;simp only[go_sem, ibin, ishift, z1, z1n])<;>rfl))
    (repeat' with_reducible first |apply qA|apply qB|apply qC|apply qD|apply qE|apply qF|(apply qG;decide)|apply qH|apply qI|apply qJ|apply qK|((first|apply qL|apply qM|apply qN|apply qO|((first|apply qP|apply qQ);decide +kernel));(conv=>lhs;simp only[go_sem, ibin, ishift])<;>rfl)|((first|apply qR|apply qS);(conv=>lhs;simp only[go_sem])<;>rfl;rfl)|((first|apply qT|apply qU);(conv=>lhs;simp only[go_sem])<;>rfl;rfl)|apply qV|apply qW|apply qX|apply qY|apply qZ)
    (with_reducible((first|apply pA|apply pB|apply pC|apply pD|apply pE|((first|apply pF|apply pG);decide +kernel));(conv=>lhs;simp only[go_sem, ibin, ishift])<;>rfl))
    refine CK_pure (always_spec c.awake) rfl ?_
    rintro v h' ⟨rfl, rfl⟩
    (with_reducible((first|apply WO2_finw|apply WO2_fina);(conv=>lhs;simp only[go_sem, ibin, ishift])<;>rfl))
    (repeat' with_reducible first |apply qA|apply qB|apply qC|apply qD|apply qE|apply qF|(apply qG;decide)|apply qH|apply qI|apply qJ|apply qK|((first|apply qL|apply qM|apply qN|apply qO|((first|apply qP|apply qQ);decide +kernel));(conv=>lhs;simp only[go_sem, ibin, ishift])<;>rfl)|((first|apply qR|apply qS);(conv=>lhs;simp only[go_sem])<;>rfl;rfl)|((first|apply qT|apply qU);(conv=>lhs;simp only[go_sem])<;>rfl;rfl)|apply qV|apply qW|apply qX|apply qY|apply qZ)
    refine ⟨by first | exact .inr rfl | exact .inl rfl, _, _, (by (conv => lhs; simp only [go_sem, ibin, ishift]) <;> with_reducible rfl), (by (conv => lhs; simp only [go_sem, ibin, ishift]) <;> with_reducible rfl), ?_⟩
    refine ⟨[], by decide, rfl, ?_⟩
    rfl
  have z1 : decide ((d.length : Int) > 256) = false := decide_eq_false (by omega)
  have z1n : decide (d.length > 256) = false := decide_eq_false hlen
  have hnw := new_spec c.toTabS 3 1 9 f
  have hks : okSet 3 1 9 := ⟨by omega, by omega, by omega⟩
  unfold Sn.h Sn.o at hnw
  simp only [List.map_nil, List.length_nil] at hnw
  (with_reducible((first|apply WO2_finw|apply WO2_fina);(conv=>lhs;simp only[go_sem, ibin, ishift, z1, z1n])<;>rfl))
  (repeat' with_reducible first |apply qA|apply qB|apply qC|apply qD|apply qE|apply qF|(apply qG;decide)|apply qH|apply qI|apply qJ|apply qK|((first|apply qL|apply qM|apply qN|apply qO|((first|apply qP|apply qQ);decide +kernel));(conv=>lhs;simp only[go_sem, ibin, ishift])<;>rfl)|((first|apply qR|apply qS);(conv=>lhs;simp only[go_sem])<;>rfl;rfl)|((first|apply qT|apply qU);(conv=>lhs;simp only[go_sem])<;>rfl;rfl)|apply qV|apply qW|apply qX|apply qY|apply qZ)
  (with_reducible((first|apply pA|apply pB|apply pC|apply pD|apply pE|((first|apply pF|apply pG);decide +kernel));(conv=>lhs;simp only[go_sem, ibin, ishift])<;>rfl))
  refine CK_pure hnw rfl ?_
  rintro v h' ⟨-, hv⟩
  obtain ⟨rfl, rfl⟩ := hv hks
  clear hv hnw
  have hroom : d.length ≤ room := by simp only [room]; omega
  have hroom2 : (0 + d.length) * 1 ≤ room := by omega
  (with_reducible((first|apply WO2_finw|apply WO2_fina);(conv=>lhs;simp only[go_sem, ibin, ishift])<;>rfl))
  (repeat' with_reducible first |apply qA|apply qB|apply qC|apply qD|apply qE|apply qF|(apply qG;decide)|apply qH|apply qI|apply qJ|apply qK|((first|apply qL|apply qM|apply qN|apply qO|((first|apply qP|apply qQ);decide +kernel));(conv=>lhs;simp only[go_sem, ibin, ishift, hroom, hroom2])<;>rfl)|((first|apply qR|apply qS);(conv=>lhs;simp only[go_sem])<;>rfl;rfl)|((first|apply qT|apply qU);(conv=>lhs;simp only[go_sem])<;>rfl;rfl)|apply qV|apply qW|apply qX|apply qY|apply qZ)
  have hos : ∀ k : Int, Ret2 T 2 i_retry_Sender_Open [.ptr 0 0] [some (.obj [.i .i64 3, .i .i64 1, .i .i64 9, .i .u16 (IntKind.u16.wrap (f + 1)), .sl 4 1 0 1 none, .b false]), some (.arr 4 [[.i .u16 f, .fz 1 (d.map c8), .i .i64 k, .i .i64 0]])] (fun v h' => v = .sl 1 2 0 1 none ∧ h' = [some (.obj [.i .i64 3, .i .i64 1, .i .i64 9, .i .u16 (IntKind.u16.wrap (f + 1)), .sl 4 1 0 1 none, .b false]), some (.arr 4 [[.i .u16 f, .fz 1 (d.map c8), .i .i64 k, .i .i64 0]]), some (.arr 1 [[.i .u16 f]])]) := fun k => open_spec c.toTabS (Sn.mk 3 1 9 (IntKind.u16.wrap (f + 1)) [⟨f, d, k, 0⟩] false) (show 1 ≤ _ by decide)
  (with_reducible((first|apply pA|apply pB|apply pC|apply pD|apply pE|((first|apply pF|apply pG);decide +kernel));(conv=>lhs;simp only[go_sem, ibin, ishift])<;>rfl))
  refine CK_call [1, 4, 2] (putL_spec c.toTabS 3 f d (by omega) hd0) (by decide) (by simp) rfl rfl rfl ?_
  rintro v h' ⟨⟨x, y, rfl⟩, rfl⟩
  (with_reducible((first|apply WO2_finw|apply WO2_fina);(conv=>lhs;simp only[go_sem, ibin, ishift])<;>rfl))
  ((repeat' with_reducible first |apply qA|apply qB|apply qC|apply qD|apply qE|apply qF|(apply qG;decide)|apply qH|apply qI|apply qJ|apply qK|apply qX|((first|apply qR|apply qS);(conv=>lhs;simp only[go_sem])<;>rfl;rfl)|((first|apply qT|apply qU);(conv=>lhs;simp only[go_sem])<;>rfl;rfl)|apply qZ|apply qY|apply qW);with_reducible((first|apply qL|apply qM|apply qN|apply qO|((first|apply qP|apply qQ);decide +kernel));(conv=>lhs;simp only[go_sem, ibin, ishift])<;>rfl))
  (repeat' with_reducible first |apply qA|apply qB|apply qC|apply qD|apply qE|apply qF|(apply qG;decide)|apply qH|apply qI|apply qJ|apply qK|apply qX|((first|apply qR|apply qS);(conv=>lhs;simp only[go_sem])<;>rfl;rfl)|((first|apply qT|apply qU);(conv=>lhs;simp only[go_sem])<;>rfl;rfl)|apply qZ|apply qY|apply qW)
  refine W2_loopu (fun m u g => ∃ (k : Nat) (cur : List UInt8), k + m = 3 ∧ cur.length = d.length ∧ u = [(8, .i .i64 k)] ∧ g = [(2, .arr 4 [[.i .u16 f, .fz 1 (d.map c8), .i .i64 k, .i .i64 0]]), (4, .arr 1 (cur.map c8))]) 3 ⟨0, d, by omega, rfl, rfl, rfl⟩ rfl rfl ?_
  rintro m u g ⟨k, cur, hk, hcl, rfl, rfl⟩
  intro e1 h1 he1 hh1; simp only [egd, supE, hgd, supH, Nat.reduceEqDiff, Nat.reduceAdd, if_true, if_false, reduceIte] at he1 hh1; subst he1; subst hh1
  by_cases hk3 : k < 3
  · have zk : decide (k < 3) = true := decide_eq_true hk3
    have zki : decide ((k : Int) < 3) = true := decide_eq_true (by omega)
    (repeat' with_reducible first |apply qA|apply qB|apply qC|apply qD|apply qE|apply qF|(apply qG;decide)|apply qH|apply qI|apply qJ|apply qK|((first|apply qL|apply qM|apply qN|apply qO|((first|apply qP|apply qQ);decide +kernel));(conv=>lhs;simp only[go_sem, ibin, ishift, zk, zki])<;>rfl)|((first|apply qR|apply qS);(conv=>lhs;simp only[go_sem])<;>rfl;rfl)|((first|apply qT|apply qU);(conv=>lhs;simp only[go_sem])<;>rfl;rfl)|apply qV|apply qW|apply qX|apply qY|apply qZ)
    refine W2_loopu (fun m u g => ∃ (i : Nat) (cu : List UInt8), i + m = d.length ∧ cu.length = d.length ∧ u = [(46, .i .i64 i)] ∧ g = [(4, .arr 1 (cu.map c8))]) d.length ⟨0, cur, by omega, hcl, rfl, rfl⟩ rfl rfl ?_
    rintro m u g ⟨i, cu, hi, hcu, rfl, rfl⟩
    intro e1 h1 he1 hh1; simp only [egd, supE, hgd, supH, Nat.reduceEqDiff, Nat.reduceAdd, if_true, if_false, reduceIte] at he1 hh1; subst he1; subst hh1
    by_cases hid : i < d.length
    · have hic : i < cu.length := by omega
      have hg := List.getElem?_eq_getElem hic
      generalize cu[i] = x at hg
      obtain ⟨y, hy⟩ := inc8 x
      have zi : decide (i < d.length) = true := decide_eq_true hid
      have zii : decide ((i : Int) < (d.length : Int)) = true := decide_eq_true (by omega)
      have i0 : (0 : Int) ≤ (i : Int) := by omega
      have i1 : (i : Int) < (d.length : Int) := by omega
      have wi1 := wS (show i < 9223372036854775807 by omega)
      (repeat' with_reducible first |apply qA|apply qB|apply qC|apply qD|apply qE|apply qF|(apply qG;decide)|apply qH|apply qI|apply qJ|apply qK|((first|apply qL|apply qM|apply qN|apply qO|((first|apply qP|apply qQ);decide +kernel));(conv=>lhs;simp only[go_sem, ibin, ishift, zi, zii, i0, i1, hid, hic, hg, hy, hcu, c8, wi1])<;>rfl)|((first|apply qR|apply qS);(conv=>lhs;simp only[go_sem])<;>rfl;rfl)|((first|apply qT|apply qU);(conv=>lhs;simp only[go_sem])<;>rfl;rfl)|apply qV|apply qW|apply qX|apply qY|apply qZ)
      rw [show (List.map c8 cu).set i [PV.i .u8 (y.toNat : Int)] = (cu.set i y).map c8 by rw [List.map_set]; rfl]
      refine ⟨[0, 1, 2, 3, 4], by decide, rfl, ?_⟩
      exact ⟨d.length - (i + 1), _, _, by omega, ⟨i + 1, cu.set i y, by omega, by rw [List.length_set]; exact hcu, rfl, rfl⟩, rfl, (by first | rfl | ((conv => lhs; simp only [go_sem, ibin, ishift]) <;> rfl))⟩
    · have zi : decide (i < d.length) = false := decide_eq_false hid
      have zii : decide ((i : Int) < (d.length : Int)) = false := decide_eq_false (by omega)
      have htk := tick1_spec c.toTabS 3 (IntKind.u16.wrap (f + 1)) f d (by omega) hd0 (k : Int) (by omega)
      rw [show (k : Int) + 1 = ((k + 1 : Nat) : Int) from rfl] at htk
      have wk1 := wS (show k < 9223372036854775807 by omega)
      (repeat' with_reducible first |apply qA|apply qB|apply qC|apply qD|apply qE|apply qF|(apply qG;decide)|apply qH|apply qI|apply qJ|apply qK|((first|apply qL|apply qM|apply qN|apply qO|((first|apply qP|apply qQ);decide +kernel));(conv=>lhs;simp only[go_sem, ibin, ishift, zi, zii])<;>rfl)|((first|apply qR|apply qS);(conv=>lhs;simp only[go_sem])<;>rfl;rfl)|((first|apply qT|apply qU);(conv=>lhs;simp only[go_sem])<;>rfl;rfl)|apply qV|apply qW|apply qX|apply qY|apply qZ)
      (with_reducible((first|apply pA|apply pB|apply pC|apply pD|apply pE|((first|apply pF|apply pG);decide +kernel));(conv=>lhs;simp only[go_sem, ibin, ishift])<;>rfl))
      refine CK_call [1, 2] htk (by decide) (by simp) rfl rfl rfl ?_
      rintro v h' ⟨rfl, rfl⟩
      (with_reducible((first|apply WO2_finw|apply WO2_fina);(conv=>lhs;simp only[go_sem, ibin, ishift])<;>rfl))
      (repeat' with_reducible first |apply qA|apply qB|apply qC|apply qD|apply qE|apply qF|(apply qG;decide)|apply qH|apply qI|apply qJ|apply qK|((first|apply qL|apply qM|apply qN|apply qO|((first|apply qP|apply qQ);decide +kernel));(conv=>lhs;simp only[go_sem, ibin, ishift, bytes2_c8])<;>rfl)|((first|apply qR|apply qS);(conv=>lhs;simp only[go_sem])<;>rfl;rfl)|((first|apply qT|apply qU);(conv=>lhs;simp only[go_sem])<;>rfl;rfl)|apply qV|apply qW|apply qX|apply qY|apply qZ)
      (with_reducible((first|apply pA|apply pB|apply pC|apply pD|apply pE|((first|apply pF|apply pG);decide +kernel));(conv=>lhs;simp only[go_sem, ibin, ishift])<;>rfl))
      refine CK_call [1, 2] (hos ((k + 1 : Nat) : Int)) (by decide) (by simp) rfl rfl rfl ?_
      rintro v h' ⟨rfl, rfl⟩
      (with_reducible((first|apply WO2_finw|apply WO2_fina);(conv=>lhs;simp only[go_sem, ibin, ishift])<;>rfl))
      (repeat' with_reducible first |apply qA|apply qB|apply qC|apply qD|apply qE|apply qF|(apply qG;decide)|apply qH|apply qI|apply qJ|apply qK|((first|apply qL|apply qM|apply qN|apply qO|((first|apply qP|apply qQ);decide +kernel));(conv=>lhs;simp only[go_sem, ibin, ishift])<;>rfl)|((first|apply qR|apply qS);(conv=>lhs;simp only[go_sem])<;>rfl;rfl)|((first|apply qT|apply qU);(conv=>lhs;simp only[go_sem])<;>rfl;rfl)|apply qV|apply qW|apply qX|apply qY|apply qZ)
      refine W2_loopu (fun m u g => ∃ (i : Nat) (z : Int), i + m = 1 ∧ u = [(86, .i .i64 i)] ∧ g = [(7, .arr 1 [[.i .u16 z]])]) 1 ⟨0, f, by omega, rfl, rfl⟩ rfl rfl ?_
      rintro m u g ⟨i, z, hi, rfl, rfl⟩
      intro e1 h1 he1 hh1; simp only [egd, supE, hgd, supH, Nat.reduceEqDiff, Nat.reduceAdd, if_true, if_false, reduceIte] at he1 hh1; subst he1; subst hh1
      by_cases hi0 : i = 0
      · subst hi0
        (repeat' with_reducible first |apply qA|apply qB|apply qC|apply qD|apply qE|apply qF|(apply qG;decide)|apply qH|apply qI|apply qJ|apply qK|((first|apply qL|apply qM|apply qN|apply qO|((first|apply qP|apply qQ);decide +kernel));(conv=>lhs;simp only[go_sem, ibin, ishift])<;>rfl)|((first|apply qR|apply qS);(conv=>lhs;simp only[go_sem])<;>rfl;rfl)|((first|apply qT|apply qU);(conv=>lhs;simp only[go_sem])<;>rfl;rfl)|apply qV|apply qW|apply qX|apply qY|apply qZ)
        refine ⟨[0, 1, 2, 3, 4, 5, 6, 7], by decide, rfl, ?_⟩
        exact ⟨0, _, _, by omega, ⟨1, _, by omega, rfl, rfl⟩, rfl, (by first | rfl | ((conv => lhs; simp only [go_sem, ibin, ishift]) <;> rfl))⟩
      · have hi1 : i = 1 := by omega
        subst hi1
        (repeat' with_reducible first |apply qA|apply qB|apply qC|apply qD|apply qE|apply qF|(apply qG;decide)|apply qH|apply qI|apply qJ|apply qK|((first|apply qL|apply qM|apply qN|apply qO|((first|apply qP|apply qQ);decide +kernel));(conv=>lhs;simp only[go_sem, ibin, ishift, wk1])<;>rfl)|((first|apply qR|apply qS);(conv=>lhs;simp only[go_sem])<;>rfl;rfl)|((first|apply qT|apply qU);(conv=>lhs;simp only[go_sem])<;>rfl;rfl)|apply qV|apply qW|apply qX|apply qY|apply qZ)
        refine ⟨[0, 1, 2, 3, 5], by decide, rfl, ?_⟩
        exact ⟨3 - (k + 1), _, _, by omega, ⟨k + 1, d, by omega, rfl, rfl, rfl⟩, rfl, (by first | rfl | ((conv => lhs; simp only [go_sem, ibin, ishift]) <;> rfl))⟩
  · have zk : decide (k < 3) = false := decide_eq_false hk3
    have zki : decide ((k : Int) < 3) = false := decide_eq_false (by omega)
    (repeat' with_reducible first |apply qA|apply qB|apply qC|apply qD|apply qE|apply qF|(apply qG;decide)|apply qH|apply qI|apply qJ|apply qK|((first|apply qL|apply qM|apply qN|apply qO|((first|apply qP|apply qQ);decide +kernel));(conv=>lhs;simp only[go_sem, ibin, ishift, zk, zki])<;>rfl)|((first|apply qR|apply qS);(conv=>lhs;simp only[go_sem])<;>rfl;rfl)|((first|apply qT|apply qU);(conv=>lhs;simp only[go_sem])<;>rfl;rfl)|apply qV|apply qW|apply qX|apply qY|apply qZ)
    (repeat' with_reducible first |apply qA|apply qB|apply qC|apply qD|apply qE|apply qF|(apply qG;decide)|apply qH|apply qI|apply qJ|apply qK|apply qX|((first|apply qR|apply qS);(conv=>lhs;simp only[go_sem])<;>rfl;rfl)|((first|apply qT|apply qU);(conv=>lhs;simp only[go_sem])<;>rfl;rfl)|apply qZ|apply qY|apply qW)
    (with_reducible first | apply W2_sregH [0] [false, false, false, true, false] | apply W2_regH [0] [false, false, false, true, false])
    · decide
    · decide
    · rfl
    ((conv => lhs; simp only [go_sem, ibin, ishift]) <;> with_reducible rfl)
    refine EH_call [1, 2] (hos (k : Int)) (by decide) (by simp) rfl rfl rfl rfl ?_
    rintro v h' ⟨rfl, rfl⟩
    (with_reducible apply WOH_go (by decide); ((conv => lhs; simp only [go_sem, ibin, ishift]) <;> with_reducible rfl))
    refine EH_ck ?_
    refine CK_frz 5 rfl (args' := [.fz 1 (([f] : List Int).map cU), .sl 1 6 0 1 none]) rfl (by (conv => lhs; simp only [go_sem, ibin, ishift]) <;> with_reducible rfl) (by (conv => lhs; simp only [go_sem, ibin, ishift]) <;> with_reducible rfl) ?_
    refine CK_frz 6 rfl (args' := [.fz 1 (([f] : List Int).map cU), .fz 1 (([f] : List Int).map cU)]) rfl (by (conv => lhs; simp only [go_sem, ibin, ishift]) <;> with_reducible rfl) (by (conv => lhs; simp only [go_sem, ibin, ishift]) <;> with_reducible rfl) ?_
    refine CK_pure (same16_spec c [f] [f] (show 1 ≤ _ by decide)) rfl ?_
    rintro v h' ⟨rfl, rfl⟩
    rw [decide_eq_true rfl]
    (with_reducible((first|apply WO2_finw|apply WO2_fina);(conv=>lhs;simp only[go_sem, ibin, ishift])<;>rfl))
    (repeat' with_reducible first |apply qA|apply qB|apply qC|apply qD|apply qE|apply qF|(apply qG;decide)|apply qH|apply qI|apply qJ|apply qK|((first|apply qL|apply qM|apply qN|apply qO|((first|apply qP|apply qQ);decide +kernel));(conv=>lhs;simp only[go_sem, ibin, ishift])<;>rfl)|((first|apply qR|apply qS);(conv=>lhs;simp only[go_sem])<;>rfl;rfl)|((first|apply qT|apply qU);(conv=>lhs;simp only[go_sem])<;>rfl;rfl)|apply qV|apply qW|apply qX|apply qY|apply qZ)
    refine ⟨by first | exact .inr rfl | exact .inl rfl, _, _, (by (conv => lhs; simp only [go_sem, ibin, ishift]) <;> with_reducible rfl), (by (conv => lhs; simp only [go_sem, ibin, ishift]) <;> with_reducible rfl), ?_⟩
    refine ⟨[], by decide, rfl, ?_⟩
    rfl
end Go.Proofs.Ytadbipeachcekaa.Ab
