/- The given statement about NoteReads: of any bytes just the notes from the front on are read, and how many bytes they are; the bytes stay. -/
import Derived.Test.YtdcknhimmdmgoaaFrC
import Derived.Test.YtdcknhimmdmgoaaY18j
import Derived.Test.YtdcknhimmdmgoaaL18
import Derived.Test.YtdcknhimmdmgoaaRows
import Derived.WalkKit
import Derived.ProofKit
import Derived.OpenShut
namespace Go.Proofs.Ytdcknhimmdmgoaa.Ab
open Go Go.ChangeShapes Go.WideShapes Go.ChangeAt Go.RowKit
set_option linter.unusedVariables false
def T18 : AT := told tb i_stillagelaw18_awake (.b true)
theorem awakes : (exN tb 40 i_stillagelaw18_awake [] h00).map (·.1) = some (.b true) := by decide +kernel
theorem T18_ok : TOk Try.prog lk T18 := with_ok tb_ok (alone tb_ok mixed awakes)
theorem tabL18 : TabL18 T18 := ⟨⟨⟨⟨⟨rfl, rfl, rfl, rfl, rfl, rfl⟩, rfl⟩, rfl, rfl⟩, rfl, rfl, rfl, rfl, rfl, rfl, rfl, rfl, rfl⟩, rfl⟩
theorem kids : Kids Try.prog (· < Try.prog.types.size) := kids_rows (by kernel_rfl) (by kernel_rfl)
theorem slcs : slicesB Try.prog = true := by kernel_rfl
theorem own : ownKnob Try.prog.godebug = none := by kernel_rfl
theorem op_u8 {W : World} : Op Try.prog W 5 1 fun ps => ∃ n, IntKind.u8.min ≤ n ∧ n ≤ IntKind.u8.max ∧ ps = [.i .u8 n] := op_int Try.underlying5
theorem of_u8 (ps : List PV) (h : (∃ n, IntKind.u8.min ≤ n ∧ n ≤ IntKind.u8.max ∧ ps = [PV.i .u8 n]) ∧ ps.length = 1) : ∃ c, ps = c8 c := by
  obtain ⟨⟨n, h1, h2, rfl⟩, _⟩ := h
  refine ⟨UInt8.ofInt n, ?_⟩
  have h1 : 0 ≤ n := h1
  have h2 : n ≤ 255 := h2
  simp only [c8]
  rw [u8int n h1 (by omega)]
set_option maxRecDepth 100000 in
theorem noteReads_lifted (os : Os) (started : os.Started) (H : Type) (enc : TypeId × Value → H) :
    ReturnsInHanded {} Try.checked os 7 .any (Rows.noteReadsSpec.pre6 enc Try.prog Try.f7 Rows.noteReadsRow.domain false) (Rows.noteReadsSpec.post enc Try.prog Try.f7 false true false false) := by
  refine returnsInHanded_of_change (C := Try.checked) own started (by kernel_rfl) Try.func7
    (ChangeSpec.witness6 (enc := enc) (C := Try.checked) false ⟨#[], #[.slice none 0 0], []⟩ 8 (by kernel_rfl) (by kernel_rfl) (by kernel_rfl) (by kernel_rfl)) ?_
  intro W base args ds gs before hval0 hW hcnd _
  have hval : ∀ (j : Nat) t v, Try.f7.params[j]? = some t → args[j]? = some v → Value.okWide Try.prog W .any base t v := hval0
  have hW' := hW
  obtain ⟨p, q, hA0, hV, rfl, hfz, hnd⟩ := hW
  have hA : DataW.TrodAll enc Try.prog W 0 (fun _ => true) true Try.f7.params.toList args.toList ds p := hA0
  rw [Try.params7] at hA hval
  obtain ⟨v0, vs0, d0, ds0, p0, q0, hargs, rfl, rfl, h0, r0⟩ := trodAll_cons hA
  obtain ⟨rfl, rfl, rfl⟩ := trodAll_nil r0
  obtain rfl : args = #[v0] := by cases args; simp_all
  obtain ⟨rfl, rfl⟩ := trodVars_none hV
  obtain ⟨els, e1, e2, a0⟩ := arg_slice (lk := lk) Try.underlying25 op_u8 (by kernel_rfl) (by decide) (hval 0 25 v0 rfl rfl) h0
  obtain ⟨b, rfl⟩ := els_map of_u8 els e1
  obtain ⟨cargs, hc, hx⟩ := args_cons a0 args_nil
  refine (law_calls2 (xs := #[v0]) T18_ok mixed (f := i_stillagelaw18_NoteReads) (g := 7) rfl (noteReads_law tabL18 rfl b) hc hx).mono fun e W' ⟨he, hs, ho, hu⟩ => ?_
  subst he
  exact ⟨_, rfl, post_true kids (fun ht hu => slices_ok slcs ht hu) (by rw [Try.params7]; decide +kernel) rfl hW' hs ho hu (tb := 4) (by kernel_rfl) Try.underlying4 ⟨rfl, rfl, rfl⟩⟩
theorem noteReads_over : Rows.noteReadsRow.holds Try.pinned (OpenSpec.ofChange Rows.noteReadsSpec) :=
  OpenClaim.holds_of_wide 7 Try.f7 rfl rfl rfl rfl rfl rfl rfl ⟨rfl, rfl, rfl, rfl, rfl⟩ rfl rfl rfl rfl rfl (by kernel_rfl) Try.func7 (by kernel_rfl)
    (of_decide_eq_true (by kernel_rfl)) (by unfold Func.isWrapper; first | (rw [if_pos (by decide +kernel)]; kernel_rfl) | (rw [if_neg (by decide +kernel)]; exact ⟨rfl, rfl⟩))
    (fun os started H enc _ => noteReads_lifted os started H enc)
theorem noteReads_proved : Rows.NoteReadsSaid := noteReads_over
end Go.Proofs.Ytdcknhimmdmgoaa.Ab
