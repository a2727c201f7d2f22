/- The given statement about ClaimAgain. -/
import Derived.Test.YtpgoemmjhnnmoaaQ10
import Derived.Test.YtpgoemmjhnnmoaaY10n
namespace Go.Proofs.Ytpgoemmjhnnmoaa.Ab
open Go Go.ChangeShapes Go.WideShapes Go.ChangeAt Go.RowKit
set_option linter.unusedVariables false
set_option maxRecDepth 100000 in
theorem claimAgain_lifted (os : Os) (started : os.Started) (H : Type) (enc : TypeId × Value → H) :
    ReturnsInHanded {} Try.checked os 7 .any (Rows.claimAgainSpec.pre6 enc Try.prog Try.f7 Rows.claimAgainRow.domain false) (Rows.claimAgainSpec.post enc Try.prog Try.f7 false true false false) := by
  refine returnsInHanded_of_change (C := Try.checked) own started (by kernel_rfl) Try.func7
    (ChangeSpec.witness6 (enc := enc) (C := Try.checked) false ⟨#[], #[.int .i64 0, .int .i64 0, .slice none 0 0], []⟩ 8 (by kernel_rfl) (by kernel_rfl) (by kernel_rfl) (by kernel_rfl)) ?_
  intro W base args ds gs before hval0 hW hcnd _
  have hval : ∀ (j : Nat) t v, Try.f7.params[j]? = some t → args[j]? = some v → Value.okWide Try.prog W .any base t v := hval0
  have hW' := hW
  obtain ⟨p, q, hA0, hV, rfl, hfz, hnd⟩ := hW
  have hA : DataW.TrodAll enc Try.prog W 0 (fun _ => true) true Try.f7.params.toList args.toList ds p := hA0
  rw [Try.params7] at hA hval
  obtain ⟨v0, vs0, d0, ds0, p0, q0, hargs, rfl, rfl, h0, r0⟩ := trodAll_cons hA
  obtain ⟨v1, vs1, d1, ds1, p1, q1, rfl, rfl, rfl, h1, r1⟩ := trodAll_cons r0
  obtain ⟨v2, vs2, d2, ds2, p2, q2, rfl, rfl, rfl, h2, r2⟩ := trodAll_cons r1
  obtain ⟨rfl, rfl, rfl⟩ := trodAll_nil r2
  obtain rfl : args = #[v0, v1, v2] := by cases args; simp_all
  obtain ⟨rfl, rfl⟩ := trodVars_none hV
  obtain ⟨_, ⟨c, n0, m0, ee0⟩, a0⟩ := arg_one (lk := lk) (op_int Try.underlying3) (top_int Try.underlying3 (hval 0 3 v0 rfl rfl)) h0
  cases ee0
  obtain ⟨_, ⟨d, n1, m1, ee1⟩, a1⟩ := arg_one (lk := lk) (op_int Try.underlying3) (top_int Try.underlying3 (hval 1 3 v1 rfl rfl)) h1
  cases ee1
  obtain ⟨els2, e2, l2, a2⟩ := arg_slice (lk := lk) Try.underlying30 op_i64 (by kernel_rfl) (by decide) (hval 2 30 v2 rfl rfl) h2
  obtain ⟨l, rfl⟩ := els_map of_i64 els2 e2
  obtain ⟨cargs, hc, hx⟩ := (args_cons a0 (args_cons a1 (args_cons a2 args_nil)))
  refine (law_calls2 (xs := #[v0, v1, v2]) T10_ok mixed (f := i_stillagelaw10_ClaimAgain) (g := 7) rfl (claimAgain_law tabL10 rfl c d l) hc hx).mono fun e W' ⟨he, hs, ho, hu⟩ => ?_
  subst he
  exact ⟨_, rfl, post_true kids (fun ht hu => slices_ok slcs ht hu) (by rw [Try.params7]; decide +kernel) rfl hW' hs ho hu (tb := 4) (by kernel_rfl) Try.underlying4 ⟨rfl, rfl, rfl⟩⟩
theorem claimAgain_over : Rows.claimAgainRow.holds Try.pinned (OpenSpec.ofChange Rows.claimAgainSpec) :=
  OpenClaim.holds_of_wide 7 Try.f7 rfl rfl rfl rfl rfl rfl rfl ⟨rfl, rfl, rfl, rfl, rfl⟩ rfl rfl rfl rfl rfl (by kernel_rfl) Try.func7 (by kernel_rfl)
    (of_decide_eq_true (by kernel_rfl)) (by unfold Func.isWrapper; first | (rw [if_pos (by decide +kernel)]; kernel_rfl) | (rw [if_neg (by decide +kernel)]; exact ⟨rfl, rfl⟩))
    (fun os started H enc _ => claimAgain_lifted os started H enc)
theorem claimAgain_proved : Rows.ClaimAgainSaid := claimAgain_over
end Go.Proofs.Ytpgoemmjhnnmoaa.Ab
