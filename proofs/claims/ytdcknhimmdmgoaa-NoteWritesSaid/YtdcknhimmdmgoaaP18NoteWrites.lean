/- The given statement about NoteWrites. -/
import Derived.Test.YtdcknhimmdmgoaaQ18
import Derived.Test.YtdcknhimmdmgoaaY18o
namespace Go.Proofs.Ytdcknhimmdmgoaa.Ab
open Go Go.ChangeShapes Go.WideShapes Go.ChangeAt Go.RowKit
set_option linter.unusedVariables false
set_option maxRecDepth 100000 in
theorem noteWrites_lifted (os : Os) (started : os.Started) (H : Type) (enc : TypeId × Value → H) :
    ReturnsInHanded {} Try.checked os 5 .any (Rows.noteWritesSpec.pre6 enc Try.prog Try.f5 Rows.noteWritesRow.domain false) (Rows.noteWritesSpec.post enc Try.prog Try.f5 false true false false) := by
  refine returnsInHanded_of_change (C := Try.checked) own started (by kernel_rfl) Try.func5
    (ChangeSpec.witness6 (enc := enc) (C := Try.checked) false ⟨#[], #[.agg #[.int .i64 0, .int .i64 0, .int .i64 0, .int .i64 0], .slice none 0 0], []⟩ 8 (by kernel_rfl) (by kernel_rfl) (by kernel_rfl) (by kernel_rfl)) ?_
  intro W base args ds gs before hval0 hW hcnd _
  have hval : ∀ (j : Nat) t v, Try.f5.params[j]? = some t → args[j]? = some v → Value.okWide Try.prog W .any base t v := hval0
  have hW' := hW
  obtain ⟨p, q, hA0, hV, rfl, hfz, hnd⟩ := hW
  have hA : DataW.TrodAll enc Try.prog W 0 (fun _ => true) true Try.f5.params.toList args.toList ds p := hA0
  rw [Try.params5] at hA hval
  obtain ⟨v0, vs0, d0, ds0, p0, q0, hargs, rfl, rfl, h0, r0⟩ := trodAll_cons hA
  obtain ⟨v1, vs1, d1, ds1, p1, q1, rfl, rfl, rfl, h1, r1⟩ := trodAll_cons r0
  obtain ⟨rfl, rfl, rfl⟩ := trodAll_nil r1
  obtain rfl : args = #[v0, v1] := by cases args; simp_all
  obtain ⟨rfl, rfl⟩ := trodVars_none hV
  obtain ⟨qs0, e0, a0⟩ := arg_many (lk := lk) op_note (top_struct Try.underlying23 (hval 0 23 v0 rfl rfl)) h0
  obtain ⟨n, rfl⟩ := of_note qs0 e0
  obtain ⟨els1, e1, l1, a1⟩ := arg_slice (lk := lk) Try.underlying25 op_u8 (by kernel_rfl) (by decide) (hval 1 25 v1 rfl rfl) h1
  obtain ⟨b, rfl⟩ := els_map of_u8 els1 e1
  obtain ⟨cargs, hc, hx⟩ := (args_cons a0 (args_cons a1 args_nil))
  refine (law_calls2 (xs := #[v0, v1]) T18_ok mixed (f := i_stillagelaw18_NoteWrites) (g := 5) rfl (noteWrites_law tabL18 rfl n b) hc hx).mono fun e W' ⟨he, hs, ho, hu⟩ => ?_
  subst he
  exact ⟨_, rfl, post_true kids (fun ht hu => slices_ok slcs ht hu) (by rw [Try.params5]; decide +kernel) rfl hW' hs ho hu (tb := 4) (by kernel_rfl) Try.underlying4 ⟨rfl, rfl, rfl⟩⟩
theorem noteWrites_over : Rows.noteWritesRow.holds Try.pinned (OpenSpec.ofChange Rows.noteWritesSpec) :=
  OpenClaim.holds_of_wide 5 Try.f5 rfl rfl rfl rfl rfl rfl rfl ⟨rfl, rfl, rfl, rfl, rfl⟩ rfl rfl rfl rfl rfl (by kernel_rfl) Try.func5 (by kernel_rfl)
    (of_decide_eq_true (by kernel_rfl)) (by unfold Func.isWrapper; first | (rw [if_pos (by decide +kernel)]; kernel_rfl) | (rw [if_neg (by decide +kernel)]; exact ⟨rfl, rfl⟩))
    (fun os started H enc _ => noteWrites_lifted os started H enc)
theorem noteWrites_proved : Rows.NoteWritesSaid := noteWrites_over
end Go.Proofs.Ytdcknhimmdmgoaa.Ab
