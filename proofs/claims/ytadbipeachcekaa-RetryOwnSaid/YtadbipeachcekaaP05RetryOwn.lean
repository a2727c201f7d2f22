/- The given statement about RetryOwn. -/
import Derived.Test.YtadbipeachcekaaQ05a
import Derived.Test.YtadbipeachcekaaY05r
namespace Go.Proofs.Ytadbipeachcekaa.Ab
open Go Go.ChangeShapes Go.WideShapes Go.ChangeAt Go.RowKit
set_option linter.unusedVariables false
set_option maxRecDepth 100000 in
theorem retryOwn_lifted (os : Os) (started : os.Started) (H : Type) (enc : TypeId × Value → H) :
    ReturnsInHanded {} Try.checked os 3 .any (Rows.retryOwnSpec.pre6 enc Try.prog Try.f3 Rows.retryOwnRow.domain false) (Rows.retryOwnSpec.post enc Try.prog Try.f3 false true false false) := by
  refine returnsInHanded_of_change (C := Try.checked) own started (by kernel_rfl) Try.func3
    (ChangeSpec.witness6 (enc := enc) (C := Try.checked) false ⟨#[], #[.agg #[.int .i64 0, .int .i64 0, .int .i64 0, .int .u16 0], .slice none 0 0], []⟩ 8 (by kernel_rfl) (by kernel_rfl) (by kernel_rfl) (by kernel_rfl)) ?_
  intro W base args ds gs before hval0 hW hcnd _
  have hval : ∀ (j : Nat) t v, Try.f3.params[j]? = some t → args[j]? = some v → Value.okWide Try.prog W .any base t v := hval0
  have hW' := hW
  obtain ⟨p, q, hA0, hV, rfl, hfz, hnd⟩ := hW
  have hA : DataW.TrodAll enc Try.prog W 0 (fun _ => true) true Try.f3.params.toList args.toList ds p := hA0
  rw [Try.params3] at hA hval
  obtain ⟨v0, vs0, d0, ds0, p0, q0, hargs, rfl, rfl, h0, r0⟩ := trodAll_cons hA
  obtain ⟨v1, vs1, d1, ds1, p1, q1, rfl, rfl, rfl, h1, r1⟩ := trodAll_cons r0
  obtain ⟨rfl, rfl, rfl⟩ := trodAll_nil r1
  obtain rfl : args = #[v0, v1] := by cases args; simp_all
  obtain ⟨rfl, rfl⟩ := trodVars_none hV
  obtain ⟨ps0, s0, a0⟩ := arg_of (lk := lk) (n := 20) (s := tHow) (by kernel_rfl) (hval 0 24 v0 rfl rfl) h0
  obtain ⟨h, hf, rfl⟩ := of_How s0
  obtain ⟨ps1, s1, a1⟩ := arg_of (lk := lk) (n := 20) (s := .list (.int .u8)) (by kernel_rfl) (hval 1 25 v1 rfl rfl) h1
  obtain ⟨d, _, rfl⟩ := of_list (f := c8) (fun q h => of_byte h) s1
  obtain ⟨cargs, hc, hx⟩ := (args_cons a0 (args_cons a1 args_nil))
  refine (law_calls2 (xs := #[v0, v1]) T05_ok mixed (f := i_stillagelaw05_RetryOwn) (g := 3) rfl (retryOwn_law ⟨tabL05, rfl⟩ rfl h.w h.p h.t h.f hf.1 hf.2 d) hc hx).mono fun e W' ⟨he, hs, ho, hu⟩ => ?_
  subst he
  exact ⟨_, rfl, post_true kids (fun ht hu => slices_ok slcs ht hu) (by rw [Try.params3]; decide +kernel) rfl hW' hs ho hu (tb := 4) (by kernel_rfl) Try.underlying4 ⟨rfl, rfl, rfl⟩⟩
theorem retryOwn_over : Rows.retryOwnRow.holds Try.pinned (OpenSpec.ofChange Rows.retryOwnSpec) :=
  OpenClaim.holds_of_wide 3 Try.f3 rfl rfl rfl rfl rfl rfl rfl ⟨rfl, rfl, rfl, rfl, rfl⟩ rfl rfl rfl rfl rfl (by kernel_rfl) Try.func3 (by kernel_rfl)
    (of_decide_eq_true (by kernel_rfl)) (by unfold Func.isWrapper; first | (rw [if_pos (by decide +kernel)]; kernel_rfl) | (rw [if_neg (by decide +kernel)]; exact ⟨rfl, rfl⟩))
    (fun os started H enc _ => retryOwn_lifted os started H enc)
theorem retryOwn_proved : Rows.RetryOwnSaid := retryOwn_over
end Go.Proofs.Ytadbipeachcekaa.Ab
