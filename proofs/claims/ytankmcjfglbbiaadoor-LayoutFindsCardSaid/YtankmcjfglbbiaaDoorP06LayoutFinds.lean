/- The given statement about LayoutFinds. -/
import Derived.Test.YtankmcjfglbbiaaDoorQ06f
import Derived.Test.YtankmcjfglbbiaaDoorY06c
namespace Go.Proofs.YtankmcjfglbbiaaDoor.Ab
open Go Go.MakeChecks Go.ChangeShapes Go.WideShapes Go.ChangeAt Go.RowKit
set_option linter.unusedVariables false
set_option maxRecDepth 100000 in
theorem layoutFinds_lifted (os : Os) (started : os.Started) (H : Type) (enc : TypeId × Value → H) :
    ReturnsInHanded {} Tryd.checked os 4 .any (fun w args => (Rows.layoutFindsSpec.pre enc Tryd.prog Tryd.f4 Rows.layoutFindsRow.domain false w args ∧ laidMetH Tryd.prog Rows.layoutFindsRow.laid w) ∧ sizedMet enc Tryd.prog Tryd.f4 (OpenSpec.ofChange Rows.layoutFindsSpec) false w args) (Rows.layoutFindsSpec.post enc Tryd.prog Tryd.f4 false true false false) := by
  refine returnsInHanded_of_change_and (C := Tryd.checked) (X := fun w _ => laidMetH Tryd.prog Rows.layoutFindsRow.laid w) (fun _ _ _ hh h => h.of_heap hh) own started (by kernel_rfl) Tryd.func4
    (ChangeSpec.witness_shaped (enc := enc) (C := Tryd.checked) (os := os) (X := fun w _ => laidMetH Tryd.prog Rows.layoutFindsRow.laid w) false (World.laidAll Tryd.prog os Rows.layoutFindsRow.laid) #[.agg #[.slice none 0 0, .slice none 0 0], .string ⟨#[]⟩, .int .i64 0] 8 (World.laidAll_os _ _ _)
      (World.shaped_of_ZipB (by kernel_rfl) (by kernel_rfl)) (by kernel_rfl) (by kernel_rfl) (by kernel_rfl)
      (by rw [MakeChecks.laidMetH_plain _ _ _ (by kernel_rfl)]; exact laidMet_laidAll _ (by kernel_rfl) (by kernel_rfl))) ?_
  intro W base args ds gs before hval0 hW _ hwt _ _
  have hval : ∀ (j : Nat) t v, Tryd.f4.params[j]? = some t → args[j]? = some v → Value.okWide Tryd.prog W .any base t v := hval0
  have hW' := hW
  obtain ⟨p, q, hA0, hV, rfl, hfz, hnd⟩ := hW
  have hA : DataW.TrodAll enc Tryd.prog W 0 (fun _ => true) true Tryd.f4.params.toList args.toList ds p := hA0
  rw [Tryd.params4] at hA hval
  obtain ⟨v0, vs0, d0, ds0, p0, q0, hargs, rfl, rfl, h0, r0⟩ := trodAll_cons hA
  obtain ⟨v1, vs1, d1, ds1, p1, q1, rfl, rfl, rfl, h1, r1⟩ := trodAll_cons r0
  obtain ⟨v2, vs2, d2, ds2, p2, q2, rfl, rfl, rfl, h2, r2⟩ := trodAll_cons r1
  obtain ⟨rfl, rfl, rfl⟩ := trodAll_nil r2
  obtain rfl : args = #[v0, v1, v2] := by cases args; simp_all
  obtain ⟨rfl, rfl⟩ := trodVars_none hV
  obtain ⟨ps0, s0, a0⟩ := arg_of (lk := lk) (n := 20) (s := tLay) (by kernel_rfl) (hval 0 27 v0 rfl rfl) h0
  obtain ⟨l, hl, rfl⟩ := of_Lay s0
  obtain ⟨ps1, s1, a1⟩ := arg_of (lk := lk) (n := 20) (s := .str) (by kernel_rfl) (hval 1 9 v1 rfl rfl) h1
  obtain ⟨nm, _, rfl⟩ := of_str s1
  obtain ⟨ps2, s2, a2⟩ := arg_of (lk := lk) (n := 20) (s := .int .i64) (by kernel_rfl) (hval 2 3 v2 rfl rfl) h2
  obtain ⟨nd, _, rfl⟩ := of_int s2
  obtain ⟨cargs, hc, hx⟩ := (args_cons a0 (args_cons a1 (args_cons a2 args_nil)))
  refine (law_calls2 (xs := #[v0, v1, v2]) T06_ok mixed (f := i_stillagelaw06_LayoutFinds) (g := 4) rfl (layoutFinds_law tabF06 rfl l hl.1 hl.2 nm nd) hc hx).mono fun e W' ⟨he, hs, ho, hu⟩ => ?_
  subst he
  exact ⟨_, rfl, post_true kids (fun ht hu => slices_ok slcs ht hu) (by rw [Tryd.params4]; decide +kernel) rfl hW' hs ho hu (tb := 4) (by kernel_rfl) Tryd.underlying4 ⟨rfl, rfl, rfl⟩⟩
theorem layoutFinds_over : Rows.layoutFindsRow.holds Tryd.pinned (OpenSpec.ofChange Rows.layoutFindsSpec) :=
  OpenClaim.holds_of_wide 4 Tryd.f4 rfl rfl rfl rfl rfl rfl rfl ⟨rfl, rfl, rfl, rfl, rfl⟩ rfl rfl rfl rfl rfl (by kernel_rfl) Tryd.func4 (by kernel_rfl)
    (of_decide_eq_true (by kernel_rfl)) (by unfold Func.isWrapper; first | (rw [if_pos (by decide +kernel)]; kernel_rfl) | (rw [if_neg (by decide +kernel)]; exact ⟨rfl, rfl⟩))
    (fun os started H enc _ => layoutFinds_lifted os started H enc)
theorem layoutFinds_proved : Rows.LayoutFindsCardSaid :=
  Claim7.holds_tied_plain_at .later [] [.data, .pinned] true (true, "6d3e4582a982dcd6100e30d675dedb9efa76bb9e56b7d6b06e2a6b3eb45319ca") false
    layoutFinds_over (fun _ h => by cases h) (by kernel_rfl) (fun _ h => by cases h) layoutFinds_row_tie rfl ⟨rfl, rfl⟩ (by kernel_rfl) rfl
    (fun f fn hf hfn => by
      obtain rfl : f = 4 := Option.some.inj ((show Tryd.prog.funcNamed "stillage/stillagelaw06.LayoutFinds" = some 4 by kernel_rfl).symm.trans hf) |>.symm
      obtain rfl : fn = Tryd.f4 := (Option.some.inj (Tryd.func4.symm.trans hfn)).symm
      exact ⟨by kernel_rfl, fun j t ht => by
        rw [Tryd.params4] at ht
        have hm : t ∈ [27, 9, 3] := by simpa using Array.mem_of_getElem? ht
        have hall : ([27, 9, 3].all fun u => !Tryd.prog.wantsStandIn u) = true := by kernel_rfl
        exact (show Tryd.prog.wantsStandIn t = false by simpa using List.all_eq_true.1 hall t hm)⟩)
    (by kernel_rfl)
end Go.Proofs.YtankmcjfglbbiaaDoor.Ab
