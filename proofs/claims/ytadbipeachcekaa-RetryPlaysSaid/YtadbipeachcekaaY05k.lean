/- Chapter 05: RetryAcks. -/
import Derived.Test.YtadbipeachcekaaY05j
namespace Go.Proofs.Ytadbipeachcekaa.Ab
open Go
set_option linter.unusedVariables false
set_option linter.unusedSimpArgs false
variable {T : AT}
theorem retryAcks_law (c : TabA T) (hT : T i_stillagelaw05_RetryAcks = some (.fn c_stillagelaw05_RetryAcks)) (hw hp ht f a b : Int) (hf0 : 0 ≤ f) (hf1 : f < 65536) : Ret2 T 0 i_stillagelaw05_RetryAcks [.agg [.i .i64 hw, .i .i64 hp, .i .i64 ht, .i .u16 f], .i .i64 a, .i .i64 b] [] (fun v h' => v = .b true) := by
  refine Ret2_fnv hT rfl rfl ?_
  obtain ⟨k, hk, hk1⟩ := umod a 20 (by decide) (by decide)
  have hk : IntKind.i64.wrap ((IntKind.u64.wrap a).tmod 20) = (k : Int) := hk
  have wk := wS (show k < 9223372036854775807 by omega)
  have wkk := wS (show k + 1 < 9223372036854775807 by omega)
  obtain ⟨i, hi, hik⟩ := umod b (k + 1 + 1) (by omega) (by omega)
  have wu : IntKind.u64.wrap ((k + 1 + 1 : Nat) : Int) = ((k + 1 + 1 : Nat) : Int) := by
    show ((k + 1 + 1 : Nat) : Int) % 18446744073709551616 = _
    omega
  have znk : ¬(((k + 1 + 1 : Nat) : Int) = 0) := by omega
  (repeat' with_reducible first |apply qA|apply qB|apply qC|apply qD|apply qE|apply qF|(apply qG;decide)|apply qH|apply qI|apply qJ|apply qK|((first|apply qL|apply qM|apply qN|apply qO|((first|apply qP|apply qQ);decide +kernel));(conv=>lhs;simp only[go_sem, ibin, ishift])<;>rfl)|((first|apply qR|apply qS);(conv=>lhs;simp only[go_sem])<;>rfl;rfl)|((first|apply qT|apply qU);(conv=>lhs;simp only[go_sem])<;>rfl;rfl)|apply qV|apply qW|apply qX|apply qY|apply qZ)
  (with_reducible((first|apply pA|apply pB|apply pC|apply pD|apply pE|((first|apply pF|apply pG);decide +kernel));(conv=>lhs;simp only[go_sem, ibin, ishift])<;>rfl))
  refine CK_pure (always_spec c.awake) rfl ?_
  rintro v h' ⟨rfl, rfl⟩
  (with_reducible((first|apply WO2_finw|apply WO2_fina);(conv=>lhs;simp only[go_sem, ibin, ishift])<;>rfl))
  (repeat' with_reducible first |apply qA|apply qB|apply qC|apply qD|apply qE|apply qF|(apply qG;decide)|apply qH|apply qI|apply qJ|apply qK|((first|apply qL|apply qM|apply qN|apply qO|((first|apply qP|apply qQ);decide +kernel));(conv=>lhs;simp only[go_sem, ibin, ishift, hk, wk, wkk, wu, znk, hi])<;>rfl)|((first|apply qR|apply qS);(conv=>lhs;simp only[go_sem])<;>rfl;rfl)|((first|apply qT|apply qU);(conv=>lhs;simp only[go_sem])<;>rfl;rfl)|apply qV|apply qW|apply qX|apply qY|apply qZ)
  have hnw := new_spec c.toTabS 64 3 5 f
  have hks : okSet 64 3 5 := ⟨by omega, by omega, by omega⟩
  have hr0 := new_sn (w := 64) (p := 3) (t := 5) hf0 hf1
  have hk0 : (Rs.new 64 3 5 f).Ok := new_ok hks hf0 hf1
  rw [← hr0] at hnw
  rw [show Rs.new 64 3 5 f = wn 64 f bt 3 5 0 from rfl] at hk0 hnw
  clear hr0
  generalize hs0 : (wn 64 f bt 3 5 0).sn = s0 at hnw
  unfold Sn.h Sn.o at hnw
  (with_reducible((first|apply pA|apply pB|apply pC|apply pD|apply pE|((first|apply pF|apply pG);decide +kernel));(conv=>lhs;simp only[go_sem, ibin, ishift])<;>rfl))
  refine CK_pure hnw rfl ?_
  rintro v h' ⟨-, hv⟩
  obtain ⟨rfl, rfl⟩ := hv hks
  clear hv
  (with_reducible((first|apply WO2_finw|apply WO2_fina);(conv=>lhs;simp only[go_sem, ibin, ishift])<;>rfl))
  (repeat' with_reducible first |apply qA|apply qB|apply qC|apply qD|apply qE|apply qF|(apply qG;decide)|apply qH|apply qI|apply qJ|apply qK|((first|apply qL|apply qM|apply qN|apply qO|((first|apply qP|apply qQ);decide +kernel));(conv=>lhs;simp only[go_sem, ibin, ishift])<;>rfl)|((first|apply qR|apply qS);(conv=>lhs;simp only[go_sem])<;>rfl;rfl)|((first|apply qT|apply qU);(conv=>lhs;simp only[go_sem])<;>rfl;rfl)|apply qV|apply qW|apply qX|apply qY|apply qZ)
  (with_reducible((first|apply pA|apply pB|apply pC|apply pD|apply pE|((first|apply pF|apply pG);decide +kernel));(conv=>lhs;simp only[go_sem, ibin, ishift])<;>rfl))
  refine CK_pure hnw rfl ?_
  rintro v h' ⟨-, hv⟩
  obtain ⟨rfl, rfl⟩ := hv hks
  clear hv hnw
  (with_reducible((first|apply WO2_finw|apply WO2_fina);(conv=>lhs;simp only[go_sem, ibin, ishift])<;>rfl))
  (repeat' with_reducible first |apply qA|apply qB|apply qC|apply qD|apply qE|apply qF|(apply qG;decide)|apply qH|apply qI|apply qJ|apply qK|((first|apply qL|apply qM|apply qN|apply qO|((first|apply qP|apply qQ);decide +kernel));(conv=>lhs;simp only[go_sem, ibin, ishift])<;>rfl)|((first|apply qR|apply qS);(conv=>lhs;simp only[go_sem])<;>rfl;rfl)|((first|apply qT|apply qU);(conv=>lhs;simp only[go_sem])<;>rfl;rfl)|apply qV|apply qW|apply qX|apply qY|apply qZ)
  refine W2_loopu (fun m u g => ∃ (j : Nat) (s : Sn), j + m = k + 1 ∧ s = (wn 64 f bt 3 5 j).sn ∧ (wn 64 f bt 3 5 j).Ok ∧ u = [(11, .i .i64 j)] ∧ g = [(1, .obj [.i .i64 s.win, .i .i64 s.pau, .i .i64 s.tim, .i .u16 s.next, .sl 4 2 0 s.opn.length none, .b s.dead]), (2, .arr 4 (s.opn.map cPc)), (3, .obj [.i .i64 s.win, .i .i64 s.pau, .i .i64 s.tim, .i .u16 s.next, .sl 4 4 0 s.opn.length none, .b s.dead]), (4, .arr 4 (s.opn.map cPc))]) (k + 1) ⟨0, s0, by omega, hs0.symm, hk0, rfl, rfl⟩ rfl rfl ?_
  clear hk0
  rintro m u g ⟨j, s, hj, hs, hok, rfl, rfl⟩
  intro e1 h1 he1 hh1; simp only [egd, supE, hgd, supH, Nat.reduceEqDiff, Nat.reduceAdd, if_true, if_false, reduceIte] at he1 hh1; subst he1; subst hh1
  by_cases hjn : j < k + 1
  · have zj : decide (j < k + 1) = true := decide_eq_true hjn
    have zji : decide ((j : Int) < ((k + 1 : Nat) : Int)) = true := decide_eq_true (by omega)
    have wj := wS (show j < 9223372036854775807 by omega)
    have u8 := u8_bt (show j < 256 by omega)
    have hps := put_spec c.toTabS s (by rw [hs]; exact sn_len hok) (bt j) (show 1 ≤ _ by decide)
    have hpt := Rs.put_sn hok rfl (bt j)
    rw [wn_put (d := bt) (by omega) (show 1 ≤ _ by decide), ← hs] at hpt
    rw [hpt.1] at hps
    have hok2 := hpt.2.1
    clear hpt
    simp only at hps hok2
    generalize hs2 : (wn 64 f bt 3 5 (j + 1)).sn = s2 at hps
    unfold Sn.h Sn.o at hps
    (repeat' with_reducible first |apply qA|apply qB|apply qC|apply qD|apply qE|apply qF|(apply qG;decide)|apply qH|apply qI|apply qJ|apply qK|((first|apply qL|apply qM|apply qN|apply qO|((first|apply qP|apply qQ);decide +kernel));(conv=>lhs;simp only[go_sem, ibin, ishift, zj, zji, u8])<;>rfl)|((first|apply qR|apply qS);(conv=>lhs;simp only[go_sem])<;>rfl;rfl)|((first|apply qT|apply qU);(conv=>lhs;simp only[go_sem])<;>rfl;rfl)|apply qV|apply qW|apply qX|apply qY|apply qZ)
    (with_reducible((first|apply pA|apply pB|apply pC|apply pD|apply pE|((first|apply pF|apply pG);decide +kernel));(conv=>lhs;simp only[go_sem, ibin, ishift])<;>rfl))
    refine CK_frz 5 rfl (args' := [.ptr 1 0, .fz 1 ((bt j).map c8)]) rfl (by (conv => lhs; simp only [go_sem, ibin, ishift]) <;> with_reducible rfl) (by (conv => lhs; simp only [go_sem, ibin, ishift]) <;> with_reducible rfl) ?_
    refine CK_call [1, 2] hps (by decide) (by simp) rfl rfl rfl ?_
    rintro v h' ⟨rfl, rfl⟩
    (with_reducible((first|apply WO2_finw|apply WO2_fina);(conv=>lhs;simp only[go_sem, ibin, ishift])<;>rfl))
    (repeat' with_reducible first |apply qA|apply qB|apply qC|apply qD|apply qE|apply qF|(apply qG;decide)|apply qH|apply qI|apply qJ|apply qK|((first|apply qL|apply qM|apply qN|apply qO|((first|apply qP|apply qQ);decide +kernel));(conv=>lhs;simp only[go_sem, ibin, ishift, u8])<;>rfl)|((first|apply qR|apply qS);(conv=>lhs;simp only[go_sem])<;>rfl;rfl)|((first|apply qT|apply qU);(conv=>lhs;simp only[go_sem])<;>rfl;rfl)|apply qV|apply qW|apply qX|apply qY|apply qZ)
    (with_reducible((first|apply pA|apply pB|apply pC|apply pD|apply pE|((first|apply pF|apply pG);decide +kernel));(conv=>lhs;simp only[go_sem, ibin, ishift])<;>rfl))
    refine CK_frz 6 rfl (args' := [.ptr 3 0, .fz 1 ((bt j).map c8)]) rfl (by (conv => lhs; simp only [go_sem, ibin, ishift]) <;> with_reducible rfl) (by (conv => lhs; simp only [go_sem, ibin, ishift]) <;> with_reducible rfl) ?_
    refine CK_call [3, 4] hps (by decide) (by simp) rfl rfl rfl ?_
    rintro v h' ⟨rfl, rfl⟩
    (with_reducible((first|apply WO2_finw|apply WO2_fina);(conv=>lhs;simp only[go_sem, ibin, ishift])<;>rfl))
    (repeat' with_reducible first |apply qA|apply qB|apply qC|apply qD|apply qE|apply qF|(apply qG;decide)|apply qH|apply qI|apply qJ|apply qK|((first|apply qL|apply qM|apply qN|apply qO|((first|apply qP|apply qQ);decide +kernel));(conv=>lhs;simp only[go_sem, ibin, ishift, wj])<;>rfl)|((first|apply qR|apply qS);(conv=>lhs;simp only[go_sem])<;>rfl;rfl)|((first|apply qT|apply qU);(conv=>lhs;simp only[go_sem])<;>rfl;rfl)|apply qV|apply qW|apply qX|apply qY|apply qZ)
    refine ⟨[0, 1, 2, 3, 4], by decide, rfl, ?_⟩
    exact ⟨k + 1 - (j + 1), _, _, by omega, ⟨j + 1, s2, by omega, hs2.symm, hok2, rfl, rfl⟩, rfl, (by first | rfl | ((conv => lhs; simp only [go_sem, ibin, ishift]) <;> rfl))⟩
  have zj : decide (j < k + 1) = false := decide_eq_false hjn
  have zji : decide ((j : Int) < ((k + 1 : Nat) : Int)) = false := decide_eq_false (by omega)
  have hjk : j = k + 1 := by omega
  subst hjk
  have hsi := u16_num f i
  have has := ackTo_spec c.toTabS s (by rw [hs]; exact sn_len hok) (num f i)
  have hat := Rs.ackTo_sn hok rfl (num f i) (num_b f i).1 (num_b f i).2
  rw [wn_ackTo (by omega) (by omega), ← hs] at hat
  rw [hat.1] at has
  have hokm := hat.2.1
  clear hat
  simp only at has hokm
  generalize hs5 : (wm 64 f bt 3 5 (k + 1) i).sn = s5 at has
  unfold Sn.h Sn.o at has
  (repeat' with_reducible first |apply qA|apply qB|apply qC|apply qD|apply qE|apply qF|(apply qG;decide)|apply qH|apply qI|apply qJ|apply qK|((first|apply qL|apply qM|apply qN|apply qO|((first|apply qP|apply qQ);decide +kernel));(conv=>lhs;simp only[go_sem, ibin, ishift, zj, zji])<;>rfl)|((first|apply qR|apply qS);(conv=>lhs;simp only[go_sem])<;>rfl;rfl)|((first|apply qT|apply qU);(conv=>lhs;simp only[go_sem])<;>rfl;rfl)|apply qV|apply qW|apply qX|apply qY|apply qZ)
  (with_reducible((first|apply pA|apply pB|apply pC|apply pD|apply pE|((first|apply pF|apply pG);decide +kernel));(conv=>lhs;simp only[go_sem, ibin, ishift, hsi])<;>rfl))
  refine CK_call [1, 2] has (by decide) (by simp) rfl rfl rfl ?_
  rintro v h' ⟨rfl, rfl⟩
  (with_reducible((first|apply WO2_finw|apply WO2_fina);(conv=>lhs;simp only[go_sem, ibin, ishift])<;>rfl))
  (repeat' with_reducible first |apply qA|apply qB|apply qC|apply qD|apply qE|apply qF|(apply qG;decide)|apply qH|apply qI|apply qJ|apply qK|((first|apply qL|apply qM|apply qN|apply qO|((first|apply qP|apply qQ);decide +kernel));(conv=>lhs;simp only[go_sem, ibin, ishift])<;>rfl)|((first|apply qR|apply qS);(conv=>lhs;simp only[go_sem])<;>rfl;rfl)|((first|apply qT|apply qU);(conv=>lhs;simp only[go_sem])<;>rfl;rfl)|apply qV|apply qW|apply qX|apply qY|apply qZ)
  have hwn0 : (wm 64 f bt 3 5 (k + 1) 0).sn = s := by rw [hs]; rfl
  refine W2_loopu (fun m u g => ∃ (j : Nat) (r : Sn), j + m = i ∧ r = (wm 64 f bt 3 5 (k + 1) j).sn ∧ (wm 64 f bt 3 5 (k + 1) j).Ok ∧ u = [(13, .i .i64 j)] ∧ g = [(3, .obj [.i .i64 r.win, .i .i64 r.pau, .i .i64 r.tim, .i .u16 r.next, .sl 4 4 0 r.opn.length none, .b r.dead]), (4, .arr 4 (r.opn.map cPc))]) i ⟨0, s, by omega, hwn0.symm, hok, rfl, rfl⟩ rfl rfl ?_
  rintro m u g ⟨j, r, hj, hr, hokj, rfl, rfl⟩
  intro e1 h1 he1 hh1; simp only [egd, supE, hgd, supH, Nat.reduceEqDiff, Nat.reduceAdd, if_true, if_false, reduceIte] at he1 hh1; subst he1; subst hh1
  by_cases hji : j < i
  · have zj : decide (j < i) = true := decide_eq_true hji
    have zji : decide ((j : Int) < (i : Int)) = true := decide_eq_true (by omega)
    have wj := wS (show j < 9223372036854775807 by omega)
    have hsj := u16_num f j
    have hks := ack_spec c.toTabS r (by rw [hr]; exact sn_len hokj) (num f j)
    have hkt := Rs.ack_sn hokj rfl (num f j)
    rw [wm_ack (by omega), ← hr] at hkt
    rw [hkt.1] at hks
    have hok2 := hkt.2.1
    clear hkt
    simp only at hks hok2
    generalize hr2 : (wm 64 f bt 3 5 (k + 1) (j + 1)).sn = r2 at hks
    unfold Sn.h Sn.o at hks
    (repeat' with_reducible first |apply qA|apply qB|apply qC|apply qD|apply qE|apply qF|(apply qG;decide)|apply qH|apply qI|apply qJ|apply qK|((first|apply qL|apply qM|apply qN|apply qO|((first|apply qP|apply qQ);decide +kernel));(conv=>lhs;simp only[go_sem, ibin, ishift, zj, zji])<;>rfl)|((first|apply qR|apply qS);(conv=>lhs;simp only[go_sem])<;>rfl;rfl)|((first|apply qT|apply qU);(conv=>lhs;simp only[go_sem])<;>rfl;rfl)|apply qV|apply qW|apply qX|apply qY|apply qZ)
    (with_reducible((first|apply pA|apply pB|apply pC|apply pD|apply pE|((first|apply pF|apply pG);decide +kernel));(conv=>lhs;simp only[go_sem, ibin, ishift, hsj])<;>rfl))
    refine CK_call [3, 4] hks (by decide) (by simp) rfl rfl rfl ?_
    rintro v h' ⟨rfl, rfl⟩
    (with_reducible((first|apply WO2_finw|apply WO2_fina);(conv=>lhs;simp only[go_sem, ibin, ishift])<;>rfl))
    (repeat' with_reducible first |apply qA|apply qB|apply qC|apply qD|apply qE|apply qF|(apply qG;decide)|apply qH|apply qI|apply qJ|apply qK|((first|apply qL|apply qM|apply qN|apply qO|((first|apply qP|apply qQ);decide +kernel));(conv=>lhs;simp only[go_sem, ibin, ishift, wj])<;>rfl)|((first|apply qR|apply qS);(conv=>lhs;simp only[go_sem])<;>rfl;rfl)|((first|apply qT|apply qU);(conv=>lhs;simp only[go_sem])<;>rfl;rfl)|apply qV|apply qW|apply qX|apply qY|apply qZ)
    refine ⟨[0, 1, 2, 3, 4], by decide, rfl, ?_⟩
    exact ⟨i - (j + 1), _, _, by omega, ⟨j + 1, r2, by omega, hr2.symm, hok2, rfl, rfl⟩, rfl, (by first | rfl | ((conv => lhs; simp only [go_sem, ibin, ishift]) <;> rfl))⟩
  have zj : decide (j < i) = false := decide_eq_false hji
  have zji : decide ((j : Int) < (i : Int)) = false := decide_eq_false (by omega)
  have hje : j = i := by omega
  subst hje
  rw [hs5] at hr
  subst hr
  clear hwn0
  have htk := Rs.tick_sn hokm rfl (by rw [wm_tick (by omega)])
  have hts := tick_spec c.toTabS r (by rw [← hs5]; exact sn_len hokm) (fun p hp => by rw [← hs5] at hp; exact Nat.le_trans ((hokm.sim rfl).dat_ p hp) (by decide))
  have hok6 := htk.2
  rw [hs5] at htk
  rw [htk.1, show (wm 64 f bt 3 5 (k + 1) j).first = f from rfl, wm_tick (by omega)] at hts
  rw [wm_tick (by omega)] at hok6
  simp only at hts hok6
  rw [wm_outs (w := 64) (t := 5)] at hts
  clear htk
  have hos := open_spec c.toTabS _ (sn_len hok6)
  have hl6 := sn_len hok6
  generalize Rs.sn ⟨64, 3, 5, f, ((k + 1 : Nat) : Int), (lst bt j (k + 1 - j)).map (Pn.step 3), false⟩ = s6 at hts hos hl6
  have hOl := outs_len f bt j (k + 1 - j)
  have hOg := outs_get f bt j (k + 1 - j)
  generalize outs f bt j (k + 1 - j) = O at hts hOl hOg
  unfold Sn.h Sn.o at hts hos
  have wki : IntKind.i64.wrap (((k + 1 : Nat) : Int) - (j : Int)) = (O.length : Int) := by rw [wi _ (by omega) (by omega)]; omega
  (repeat' with_reducible first |apply qA|apply qB|apply qC|apply qD|apply qE|apply qF|(apply qG;decide)|apply qH|apply qI|apply qJ|apply qK|((first|apply qL|apply qM|apply qN|apply qO|((first|apply qP|apply qQ);decide +kernel));(conv=>lhs;simp only[go_sem, ibin, ishift, zj, zji])<;>rfl)|((first|apply qR|apply qS);(conv=>lhs;simp only[go_sem])<;>rfl;rfl)|((first|apply qT|apply qU);(conv=>lhs;simp only[go_sem])<;>rfl;rfl)|apply qV|apply qW|apply qX|apply qY|apply qZ)
  (with_reducible((first|apply pA|apply pB|apply pC|apply pD|apply pE|((first|apply pF|apply pG);decide +kernel));(conv=>lhs;simp only[go_sem, ibin, ishift])<;>rfl))
  refine CK_call [1, 2] hts (by decide) (by simp) rfl rfl rfl ?_
  rintro v h' ⟨hv, -⟩
  obtain ⟨rfl, rfl⟩ := hv trivial
  clear hv
  (with_reducible((first|apply WO2_finw|apply WO2_fina);(conv=>lhs;simp only[go_sem, ibin, ishift])<;>rfl))
  (repeat' with_reducible first |apply qA|apply qB|apply qC|apply qD|apply qE|apply qF|(apply qG;decide)|apply qH|apply qI|apply qJ|apply qK|((first|apply qL|apply qM|apply qN|apply qO|((first|apply qP|apply qQ);decide +kernel));(conv=>lhs;simp only[go_sem, ibin, ishift])<;>rfl)|((first|apply qR|apply qS);(conv=>lhs;simp only[go_sem])<;>rfl;rfl)|((first|apply qT|apply qU);(conv=>lhs;simp only[go_sem])<;>rfl;rfl)|apply qV|apply qW|apply qX|apply qY|apply qZ)
  (with_reducible((first|apply pA|apply pB|apply pC|apply pD|apply pE|((first|apply pF|apply pG);decide +kernel));(conv=>lhs;simp only[go_sem, ibin, ishift])<;>rfl))
  refine CK_call [3, 4] hts (by decide) (by simp) rfl rfl rfl ?_
  rintro v h' ⟨hv, -⟩
  obtain ⟨rfl, rfl⟩ := hv trivial
  clear hv
  (with_reducible((first|apply WO2_finw|apply WO2_fina);(conv=>lhs;simp only[go_sem, ibin, ishift])<;>rfl))
  (repeat' with_reducible first |apply qA|apply qB|apply qC|apply qD|apply qE|apply qF|(apply qG;decide)|apply qH|apply qI|apply qJ|apply qK|((first|apply qL|apply qM|apply qN|apply qO|((first|apply qP|apply qQ);decide +kernel));(conv=>lhs;simp only[go_sem, ibin, ishift, wki])<;>rfl)|((first|apply qR|apply qS);(conv=>lhs;simp only[go_sem])<;>rfl;rfl)|((first|apply qT|apply qU);(conv=>lhs;simp only[go_sem])<;>rfl;rfl)|apply qV|apply qW|apply qX|apply qY|apply qZ)
  refine W2.wfrz 5 rfl (by (conv => lhs; simp only [go_sem, ibin, ishift]) <;> with_reducible rfl) (by (conv => lhs; simp only [go_sem, ibin, ishift]) <;> with_reducible rfl) ?_
  refine W2.wfrz 6 rfl (by (conv => lhs; simp only [go_sem, ibin, ishift]) <;> with_reducible rfl) (by (conv => lhs; simp only [go_sem, ibin, ishift]) <;> with_reducible rfl) ?_
  (repeat' with_reducible first |apply qA|apply qB|apply qC|apply qD|apply qE|apply qF|(apply qG;decide)|apply qH|apply qI|apply qJ|apply qK|((first|apply qL|apply qM|apply qN|apply qO|((first|apply qP|apply qQ);decide +kernel));(conv=>lhs;simp only[go_sem, ibin, ishift])<;>rfl)|((first|apply qR|apply qS);(conv=>lhs;simp only[go_sem])<;>rfl;rfl)|((first|apply qT|apply qU);(conv=>lhs;simp only[go_sem])<;>rfl;rfl)|apply qV|apply qW|apply qX|apply qY|apply qZ)
  refine W2_loopu (fun m u g => ∃ (q : Nat), q + m = O.length ∧ u = [(135, .i .i64 q)] ∧ g = []) O.length ⟨0, by omega, rfl, rfl⟩ rfl rfl ?_
  rintro m u g ⟨q, hq, rfl, rfl⟩
  intro e1 h1 he1 hh1; simp only [egd, supE, hgd, supH, Nat.reduceEqDiff, Nat.reduceAdd, if_true, if_false, reduceIte] at he1 hh1; subst he1; subst hh1
  by_cases hqO : q < O.length
  · have zq : decide (q < O.length) = true := decide_eq_true hqO
    have zqi : decide ((q : Int) < (O.length : Int)) = true := decide_eq_true (by omega)
    have q0 : (0 : Int) ≤ (q : Int) := by omega
    have q1 : (q : Int) < (O.length : Int) := by omega
    have wq := wS (show q < 9223372036854775807 by omega)
    have hg := hOg q (by omega)
    have wjq : IntKind.i64.wrap ((j : Int) + (q : Int)) = ((j + q : Nat) : Int) := by rw [wi _ (by omega) (by omega)]; omega
    have u8 := u8_bt (show j + q < 256 by omega)
    have hb0 : (bt (j + q))[0]? = some (UInt8.ofNat (j + q)) := rfl
    have hbl : (bt (j + q)).length = 1 := rfl
    (repeat' with_reducible first |apply qA|apply qB|apply qC|apply qD|apply qE|apply qF|(apply qG;decide)|apply qH|apply qI|apply qJ|apply qK|((first|apply qL|apply qM|apply qN|apply qO|((first|apply qP|apply qQ);decide +kernel));(conv=>lhs;simp only[go_sem, ibin, ishift, zq, zqi, q0, q1, hg, wq, wjq, u8, cOu, bytes2_c8, c8, hqO, hb0, hbl])<;>rfl)|((first|apply qR|apply qS);(conv=>lhs;simp only[go_sem])<;>rfl;rfl)|((first|apply qT|apply qU);(conv=>lhs;simp only[go_sem])<;>rfl;rfl)|apply qV|apply qW|apply qX|apply qY|apply qZ)
    refine ⟨[0, 1, 2, 3, 4, 5, 6], by decide, rfl, ?_⟩
    exact ⟨O.length - (q + 1), _, _, by omega, ⟨q + 1, by omega, rfl, rfl⟩, rfl, (by first | rfl | ((conv => lhs; simp only [go_sem, ibin, ishift]) <;> rfl))⟩
  have zq : decide (q < O.length) = false := decide_eq_false hqO
  have zqi : decide ((q : Int) < (O.length : Int)) = false := decide_eq_false (by omega)
  (repeat' with_reducible first |apply qA|apply qB|apply qC|apply qD|apply qE|apply qF|(apply qG;decide)|apply qH|apply qI|apply qJ|apply qK|((first|apply qL|apply qM|apply qN|apply qO|((first|apply qP|apply qQ);decide +kernel));(conv=>lhs;simp only[go_sem, ibin, ishift, zq, zqi])<;>rfl)|((first|apply qR|apply qS);(conv=>lhs;simp only[go_sem])<;>rfl;rfl)|((first|apply qT|apply qU);(conv=>lhs;simp only[go_sem])<;>rfl;rfl)|apply qV|apply qW|apply qX|apply qY|apply qZ)
  (with_reducible((first|apply pA|apply pB|apply pC|apply pD|apply pE|((first|apply pF|apply pG);decide +kernel));(conv=>lhs;simp only[go_sem, ibin, ishift])<;>rfl))
  refine CK_call [1, 2] hos (by decide) (by simp) rfl rfl rfl ?_
  rintro v h' ⟨rfl, rfl⟩
  (with_reducible((first|apply pA|apply pB|apply pC|apply pD|apply pE|((first|apply pF|apply pG);decide +kernel));(conv=>lhs;simp only[go_sem, ibin, ishift])<;>rfl))
  refine CK_call [3, 4] hos (by decide) (by simp) rfl rfl rfl ?_
  rintro v h' ⟨rfl, rfl⟩
  (with_reducible((first|apply pA|apply pB|apply pC|apply pD|apply pE|((first|apply pF|apply pG);decide +kernel));(conv=>lhs;simp only[go_sem, ibin, ishift])<;>rfl))
  refine CK_frz 7 rfl (args' := [.fz 1 ((s6.opn.map Pc.seq).map cU), .sl 1 8 0 s6.opn.length none]) (by (conv => lhs; simp only [go_sem, ibin, ishift]) <;> with_reducible rfl) (by (conv => lhs; simp only [go_sem, ibin, ishift]) <;> with_reducible rfl) (by (conv => lhs; simp only [go_sem, ibin, ishift]) <;> with_reducible rfl) ?_
  refine CK_frz 8 rfl (args' := [.fz 1 ((s6.opn.map Pc.seq).map cU), .fz 1 ((s6.opn.map Pc.seq).map cU)]) (by (conv => lhs; simp only [go_sem, ibin, ishift]) <;> with_reducible rfl) (by (conv => lhs; simp only [go_sem, ibin, ishift]) <;> with_reducible rfl) (by (conv => lhs; simp only [go_sem, ibin, ishift]) <;> with_reducible rfl) ?_
  refine CK_pure (same16_spec c _ _ (by rw [List.length_map]; omega)) rfl ?_
  rintro v h' ⟨rfl, rfl⟩
  rw [decide_eq_true rfl]
  (with_reducible((first|apply WO2_finw|apply WO2_fina);(conv=>lhs;simp only[go_sem, ibin, ishift])<;>rfl))
  (repeat' with_reducible first |apply qA|apply qB|apply qC|apply qD|apply qE|apply qF|(apply qG;decide)|apply qH|apply qI|apply qJ|apply qK|((first|apply qL|apply qM|apply qN|apply qO|((first|apply qP|apply qQ);decide +kernel));(conv=>lhs;simp only[go_sem, ibin, ishift])<;>rfl)|((first|apply qR|apply qS);(conv=>lhs;simp only[go_sem])<;>rfl;rfl)|((first|apply qT|apply qU);(conv=>lhs;simp only[go_sem])<;>rfl;rfl)|apply qV|apply qW|apply qX|apply qY|apply qZ)
  refine ⟨by first | exact .inr rfl | exact .inl rfl, _, _, (by (conv => lhs; simp only [go_sem, ibin, ishift]) <;> with_reducible rfl), (by (conv => lhs; simp only [go_sem, ibin, ishift]) <;> with_reducible rfl), ?_⟩
  refine ⟨[], by decide, rfl, ?_⟩
  rfl
end Go.Proofs.Ytadbipeachcekaa.Ab
