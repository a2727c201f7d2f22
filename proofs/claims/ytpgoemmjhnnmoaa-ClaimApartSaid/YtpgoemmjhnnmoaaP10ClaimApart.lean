/- The given statement about ClaimApart. -/
import Derived.Test.YtpgoemmjhnnmoaaQ10
import Derived.Test.YtpgoemmjhnnmoaaY10j
namespace Go.Proofs.Ytpgoemmjhnnmoaa.Ab
open Go Go.ChangeShapes Go.WideShapes Go.ChangeAt Go.RowKit
set_option linter.unusedVariables false
set_option maxRecDepth 100000 in
theorem claimApart_lifted (os : Os) (started : os.Started) (H : Type) (enc : TypeId × Value → H) :
    ReturnsInHanded {} Try.checked os 4 .any (Rows.claimApartSpec.pre6 enc Try.prog Try.f4 Rows.claimApartRow.domain false) (Rows.claimApartSpec.post enc Try.prog Try.f4 false true false false) := by
  refine returnsInHanded_of_change (C := Try.checked) own started (by kernel_rfl) Try.func4
    (ChangeSpec.witness6 (enc := enc) (C := Try.checked) false ⟨#[], #[.int .i64 0], []⟩ 8 (by kernel_rfl) (by kernel_rfl) (by kernel_rfl) (by kernel_rfl)) ?_
  intro W base args ds gs before hval0 hW hcnd _
  have hval : ∀ (j : Nat) t v, Try.f4.params[j]? = some t → args[j]? = some v → Value.okWide Try.prog W .any base t v := hval0
  have hW' := hW
  obtain ⟨p, q, hA0, hV, rfl, hfz, hnd⟩ := hW
  have hA : DataW.TrodAll enc Try.prog W 0 (fun _ => true) true Try.f4.params.toList args.toList ds p := hA0
  rw [Try.params4] at hA hval
  obtain ⟨v0, vs0, d0, ds0, p0, q0, hargs, rfl, rfl, h0, r0⟩ := trodAll_cons hA
  obtain ⟨rfl, rfl, rfl⟩ := trodAll_nil r0
  obtain rfl : args = #[v0] := by cases args; simp_all
  obtain ⟨rfl, rfl⟩ := trodVars_none hV
  obtain ⟨_, ⟨c, n0, m0, ee0⟩, a0⟩ := arg_one (lk := lk) (op_int Try.underlying3) (top_int Try.underlying3 (hval 0 3 v0 rfl rfl)) h0
  cases ee0
  obtain ⟨cargs, hc, hx⟩ := (args_cons a0 args_nil)
  refine (law_calls2 (xs := #[v0]) T10_ok mixed (f := i_stillagelaw10_ClaimApart) (g := 4) rfl (claimApart_law tabL10 rfl c) hc hx).mono fun e W' ⟨he, hs, ho, hu⟩ => ?_
  subst he
  exact ⟨_, rfl, post_true kids (fun ht hu => slices_ok slcs ht hu) (by rw [Try.params4]; decide +kernel) rfl hW' hs ho hu (tb := 4) (by kernel_rfl) Try.underlying4 ⟨rfl, rfl, rfl⟩⟩
theorem claimApart_over : Rows.claimApartRow.holds Try.pinned (OpenSpec.ofChange Rows.claimApartSpec) :=
  OpenClaim.holds_of_wide 4 Try.f4 rfl rfl rfl rfl rfl rfl rfl ⟨rfl, rfl, rfl, rfl, rfl⟩ rfl rfl rfl rfl rfl (by kernel_rfl) Try.func4 (by kernel_rfl)
    (of_decide_eq_true (by kernel_rfl)) (by unfold Func.isWrapper; first | (rw [if_pos (by decide +kernel)]; kernel_rfl) | (rw [if_neg (by decide +kernel)]; exact ⟨rfl, rfl⟩))
    (fun os started H enc _ => claimApart_lifted os started H enc)
theorem claimApart_proved : Rows.ClaimApartSaid := claimApart_over
end Go.Proofs.Ytpgoemmjhnnmoaa.Ab
