/- The given statement about LayoutLimits. -/
import Derived.Test.YtankmcjfglbbiaaDoorQ06f
import Derived.Test.YtankmcjfglbbiaaDoorY06e
namespace Go.Proofs.YtankmcjfglbbiaaDoor.Ab
open Go Go.MakeChecks Go.ChangeShapes Go.WideShapes Go.ChangeAt Go.RowKit
set_option linter.unusedVariables false
set_option maxRecDepth 100000 in
theorem layoutLimits_lifted (os : Os) (started : os.Started) (H : Type) (enc : TypeId × Value → H) :
    ReturnsInHanded {} Tryd.checked os 3 .any (fun w args => (Rows.layoutLimitsSpec.pre enc Tryd.prog Tryd.f3 Rows.layoutLimitsRow.domain false w args ∧ laidMetH Tryd.prog Rows.layoutLimitsRow.laid w) ∧ sizedMet enc Tryd.prog Tryd.f3 (OpenSpec.ofChange Rows.layoutLimitsSpec) false w args) (Rows.layoutLimitsSpec.post enc Tryd.prog Tryd.f3 false true false false) := by
  refine returnsInHanded_of_change_and (C := Tryd.checked) (X := fun w _ => laidMetH Tryd.prog Rows.layoutLimitsRow.laid w) (fun _ _ _ hh h => h.of_heap hh) own started (by kernel_rfl) Tryd.func3
    (ChangeSpec.witness_shaped (enc := enc) (C := Tryd.checked) (os := os) (X := fun w _ => laidMetH Tryd.prog Rows.layoutLimitsRow.laid w) false (World.laidAll Tryd.prog os Rows.layoutLimitsRow.laid) #[.int .i64 0, .int .i64 0] 8 (World.laidAll_os _ _ _)
      (World.shaped_of_ZipB (by kernel_rfl) (by kernel_rfl)) (by kernel_rfl) (by kernel_rfl) (by kernel_rfl)
      (by rw [MakeChecks.laidMetH_plain _ _ _ (by kernel_rfl)]; exact laidMet_laidAll _ (by kernel_rfl) (by kernel_rfl))) ?_
  intro W base args ds gs before hval0 hW _ hwt _ _
  have hval : ∀ (j : Nat) t v, Tryd.f3.params[j]? = some t → args[j]? = some v → Value.okWide Tryd.prog W .any base t v := hval0
  have hW' := hW
  obtain ⟨p, q, hA0, hV, rfl, hfz, hnd⟩ := hW
  have hA : DataW.TrodAll enc Tryd.prog W 0 (fun _ => true) true Tryd.f3.params.toList args.toList ds p := hA0
  rw [Tryd.params3] at hA hval
  obtain ⟨v0, vs0, d0, ds0, p0, q0, hargs, rfl, rfl, h0, r0⟩ := trodAll_cons hA
  obtain ⟨v1, vs1, d1, ds1, p1, q1, rfl, rfl, rfl, h1, r1⟩ := trodAll_cons r0
  obtain ⟨rfl, rfl, rfl⟩ := trodAll_nil r1
  obtain rfl : args = #[v0, v1] := by cases args; simp_all
  obtain ⟨rfl, rfl⟩ := trodVars_none hV
  obtain ⟨ps0, s0, a0⟩ := arg_of (lk := lk) (n := 20) (s := .int .i64) (by kernel_rfl) (hval 0 3 v0 rfl rfl) h0
  obtain ⟨n, _, rfl⟩ := of_int s0
  obtain ⟨ps1, s1, a1⟩ := arg_of (lk := lk) (n := 20) (s := .int .i64) (by kernel_rfl) (hval 1 3 v1 rfl rfl) h1
  obtain ⟨m, _, rfl⟩ := of_int s1
  obtain ⟨cargs, hc, hx⟩ := (args_cons a0 (args_cons a1 args_nil))
  refine (law_calls2 (xs := #[v0, v1]) T06_ok mixed (f := i_stillagelaw06_LayoutLimits) (g := 3) rfl (layoutLimits_law ⟨tabF06, rfl⟩ rfl n m) hc hx).mono fun e W' ⟨he, hs, ho, hu⟩ => ?_
  subst he
  exact ⟨_, rfl, post_true kids (fun ht hu => slices_ok slcs ht hu) (by rw [Tryd.params3]; decide +kernel) rfl hW' hs ho hu (tb := 4) (by kernel_rfl) Tryd.underlying4 ⟨rfl, rfl, rfl⟩⟩
theorem layoutLimits_over : Rows.layoutLimitsRow.holds Tryd.pinned (OpenSpec.ofChange Rows.layoutLimitsSpec) :=
  OpenClaim.holds_of_wide 3 Tryd.f3 rfl rfl rfl rfl rfl rfl rfl ⟨rfl, rfl, rfl, rfl, rfl⟩ rfl rfl rfl rfl rfl (by kernel_rfl) Tryd.func3 (by kernel_rfl)
    (of_decide_eq_true (by kernel_rfl)) (by unfold Func.isWrapper; first | (rw [if_pos (by decide +kernel)]; kernel_rfl) | (rw [if_neg (by decide +kernel)]; exact ⟨rfl, rfl⟩))
    (fun os started H enc _ => layoutLimits_lifted os started H enc)
theorem layoutLimits_proved : Rows.LayoutLimitsCardSaid :=
  Claim7.holds_tied_plain_at .later [] [.data, .pinned] true (true, "6d3e4582a982dcd6100e30d675dedb9efa76bb9e56b7d6b06e2a6b3eb45319ca") false
    layoutLimits_over (fun _ h => by cases h) (by kernel_rfl) (fun _ h => by cases h) layoutLimits_row_tie rfl ⟨rfl, rfl⟩ (by kernel_rfl) rfl
    (fun f fn hf hfn => by
      obtain rfl : f = 3 := Option.some.inj ((show Tryd.prog.funcNamed "stillage/stillagelaw06.LayoutLimits" = some 3 by kernel_rfl).symm.trans hf) |>.symm
      obtain rfl : fn = Tryd.f3 := (Option.some.inj (Tryd.func3.symm.trans hfn)).symm
      exact ⟨by kernel_rfl, fun j t ht => by
        rw [Tryd.params3] at ht
        have hm : t ∈ [3, 3] := by simpa using Array.mem_of_getElem? ht
        have hall : ([3, 3].all fun u => !Tryd.prog.wantsStandIn u) = true := by kernel_rfl
        exact (show Tryd.prog.wantsStandIn t = false by simpa using List.all_eq_true.1 hall t hm)⟩)
    (by kernel_rfl)
end Go.Proofs.YtankmcjfglbbiaaDoor.Ab
