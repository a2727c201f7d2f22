/- The given statement about RetryAcks. -/
import Derived.Test.YtadbipeachcekaaQ05a
import Derived.Test.YtadbipeachcekaaY05k
namespace Go.Proofs.Ytadbipeachcekaa.Ab
open Go Go.ChangeShapes Go.WideShapes Go.ChangeAt Go.RowKit
set_option linter.unusedVariables false
set_option maxRecDepth 100000 in
theorem retryAcks_lifted (os : Os) (started : os.Started) (H : Type) (enc : TypeId × Value → H) :
    ReturnsInHanded {} Try.checked os 5 .any (Rows.retryAcksSpec.pre6 enc Try.prog Try.f5 Rows.retryAcksRow.domain false) (Rows.retryAcksSpec.post enc Try.prog Try.f5 false true false false) := by
  refine returnsInHanded_of_change (C := Try.checked) own started (by kernel_rfl) Try.func5
    (ChangeSpec.witness6 (enc := enc) (C := Try.checked) false ⟨#[], #[.agg #[.int .i64 0, .int .i64 0, .int .i64 0, .int .u16 0], .int .i64 0, .int .i64 0], []⟩ 8 (by kernel_rfl) (by kernel_rfl) (by kernel_rfl) (by kernel_rfl)) ?_
  intro W base args ds gs before hval0 hW hcnd _
  have hval : ∀ (j : Nat) t v, Try.f5.params[j]? = some t → args[j]? = some v → Value.okWide Try.prog W .any base t v := hval0
  have hW' := hW
  obtain ⟨p, q, hA0, hV, rfl, hfz, hnd⟩ := hW
  have hA : DataW.TrodAll enc Try.prog W 0 (fun _ => true) true Try.f5.params.toList args.toList ds p := hA0
  rw [Try.params5] at hA hval
  obtain ⟨v0, vs0, d0, ds0, p0, q0, hargs, rfl, rfl, h0, r0⟩ := trodAll_cons hA
  obtain ⟨v1, vs1, d1, ds1, p1, q1, rfl, rfl, rfl, h1, r1⟩ := trodAll_cons r0
  obtain ⟨v2, vs2, d2, ds2, p2, q2, rfl, rfl, rfl, h2, r2⟩ := trodAll_cons r1
  obtain ⟨rfl, rfl, rfl⟩ := trodAll_nil r2
  obtain rfl : args = #[v0, v1, v2] := by cases args; simp_all
  obtain ⟨rfl, rfl⟩ := trodVars_none hV
  obtain ⟨ps0, s0, a0⟩ := arg_of (lk := lk) (n := 20) (s := tHow) (by kernel_rfl) (hval 0 24 v0 rfl rfl) h0
  obtain ⟨h, hf, rfl⟩ := of_How s0
  obtain ⟨ps1, s1, a1⟩ := arg_of (lk := lk) (n := 20) (s := .int .i64) (by kernel_rfl) (hval 1 3 v1 rfl rfl) h1
  obtain ⟨n1, _, rfl⟩ := of_int s1
  obtain ⟨ps2, s2, a2⟩ := arg_of (lk := lk) (n := 20) (s := .int .i64) (by kernel_rfl) (hval 2 3 v2 rfl rfl) h2
  obtain ⟨n2, _, rfl⟩ := of_int s2
  obtain ⟨cargs, hc, hx⟩ := (args_cons a0 (args_cons a1 (args_cons a2 args_nil)))
  refine (law_calls2 (xs := #[v0, v1, v2]) T05_ok mixed (f := i_stillagelaw05_RetryAcks) (g := 5) rfl (retryAcks_law ⟨tabL05, rfl⟩ rfl h.w h.p h.t h.f n1 n2 hf.1 hf.2) hc hx).mono fun e W' ⟨he, hs, ho, hu⟩ => ?_
  subst he
  exact ⟨_, rfl, post_true kids (fun ht hu => slices_ok slcs ht hu) (by rw [Try.params5]; decide +kernel) rfl hW' hs ho hu (tb := 4) (by kernel_rfl) Try.underlying4 ⟨rfl, rfl, rfl⟩⟩
theorem retryAcks_over : Rows.retryAcksRow.holds Try.pinned (OpenSpec.ofChange Rows.retryAcksSpec) :=
  OpenClaim.holds_of_wide 5 Try.f5 rfl rfl rfl rfl rfl rfl rfl ⟨rfl, rfl, rfl, rfl, rfl⟩ rfl rfl rfl rfl rfl (by kernel_rfl) Try.func5 (by kernel_rfl)
    (of_decide_eq_true (by kernel_rfl)) (by unfold Func.isWrapper; first | (rw [if_pos (by decide +kernel)]; kernel_rfl) | (rw [if_neg (by decide +kernel)]; exact ⟨rfl, rfl⟩))
    (fun os started H enc _ => retryAcks_lifted os started H enc)
theorem retryAcks_proved : Rows.RetryAcksSaid := retryAcks_over
end Go.Proofs.Ytadbipeachcekaa.Ab
