/- The given statement about NoteCut. -/
import Derived.Test.YtdcknhimmdmgoaaQ18
import Derived.Test.YtdcknhimmdmgoaaY18n
namespace Go.Proofs.Ytdcknhimmdmgoaa.Ab
open Go Go.ChangeShapes Go.WideShapes Go.ChangeAt Go.RowKit
set_option linter.unusedVariables false
set_option maxRecDepth 100000 in
theorem noteCut_lifted (os : Os) (started : os.Started) (H : Type) (enc : TypeId × Value → H) :
    ReturnsInHanded {} Try.checked os 8 .any (Rows.noteCutSpec.pre6 enc Try.prog Try.f8 Rows.noteCutRow.domain false) (Rows.noteCutSpec.post enc Try.prog Try.f8 false true false false) := by
  refine returnsInHanded_of_change (C := Try.checked) own started (by kernel_rfl) Try.func8
    (ChangeSpec.witness6 (enc := enc) (C := Try.checked) false ⟨#[], #[.slice none 0 0, .int .i64 0], []⟩ 8 (by kernel_rfl) (by kernel_rfl) (by kernel_rfl) (by kernel_rfl)) ?_
  intro W base args ds gs before hval0 hW hcnd _
  have hval : ∀ (j : Nat) t v, Try.f8.params[j]? = some t → args[j]? = some v → Value.okWide Try.prog W .any base t v := hval0
  have hW' := hW
  obtain ⟨p, q, hA0, hV, rfl, hfz, hnd⟩ := hW
  have hA : DataW.TrodAll enc Try.prog W 0 (fun _ => true) true Try.f8.params.toList args.toList ds p := hA0
  rw [Try.params8] at hA hval
  obtain ⟨v0, vs0, d0, ds0, p0, q0, hargs, rfl, rfl, h0, r0⟩ := trodAll_cons hA
  obtain ⟨v1, vs1, d1, ds1, p1, q1, rfl, rfl, rfl, h1, r1⟩ := trodAll_cons r0
  obtain ⟨rfl, rfl, rfl⟩ := trodAll_nil r1
  obtain rfl : args = #[v0, v1] := by cases args; simp_all
  obtain ⟨rfl, rfl⟩ := trodVars_none hV
  obtain ⟨els0, e0, l0, a0⟩ := arg_slice (lk := lk) Try.underlying32 op_note (by kernel_rfl) (by decide) (hval 0 32 v0 rfl rfl) h0
  obtain ⟨b, rfl⟩ := els_map (fun ps h => of_note ps h.1) els0 e0
  obtain ⟨_, ⟨c, n1, m1, ee1⟩, a1⟩ := arg_one (lk := lk) (op_int Try.underlying3) (top_int Try.underlying3 (hval 1 3 v1 rfl rfl)) h1
  cases ee1
  obtain ⟨cargs, hc, hx⟩ := (args_cons a0 (args_cons a1 args_nil))
  refine (law_calls2 (xs := #[v0, v1]) T18_ok mixed (f := i_stillagelaw18_NoteCut) (g := 8) rfl (noteCut_law tabL18 rfl b c) hc hx).mono fun e W' ⟨he, hs, ho, hu⟩ => ?_
  subst he
  exact ⟨_, rfl, post_true kids (fun ht hu => slices_ok slcs ht hu) (by rw [Try.params8]; decide +kernel) rfl hW' hs ho hu (tb := 4) (by kernel_rfl) Try.underlying4 ⟨rfl, rfl, rfl⟩⟩
theorem noteCut_over : Rows.noteCutRow.holds Try.pinned (OpenSpec.ofChange Rows.noteCutSpec) :=
  OpenClaim.holds_of_wide 8 Try.f8 rfl rfl rfl rfl rfl rfl rfl ⟨rfl, rfl, rfl, rfl, rfl⟩ rfl rfl rfl rfl rfl (by kernel_rfl) Try.func8 (by kernel_rfl)
    (of_decide_eq_true (by kernel_rfl)) (by unfold Func.isWrapper; first | (rw [if_pos (by decide +kernel)]; kernel_rfl) | (rw [if_neg (by decide +kernel)]; exact ⟨rfl, rfl⟩))
    (fun os started H enc _ => noteCut_lifted os started H enc)
theorem noteCut_proved : Rows.NoteCutSaid := noteCut_over
end Go.Proofs.Ytdcknhimmdmgoaa.Ab
