/- Seat of chapter 18: what its given statements share. -/
import Derived.Test.YtdcknhimmdmgoaaMF
import Derived.Test.YtdcknhimmdmgoaaY18j
import Derived.Test.YtdcknhimmdmgoaaL18
import Derived.Test.YtdcknhimmdmgoaaRows
import Derived.WalkKit
import Derived.ProofKit
import Derived.OpenShut
namespace Go.Proofs.Ytdcknhimmdmgoaa.Ab
open Go Go.ChangeShapes Go.WideShapes Go.ChangeAt Go.RowKit
set_option linter.unusedVariables false
def T18 : AT := told tb i_stillagelaw18_awake (.b true)
theorem awakes : (exN tb 40 i_stillagelaw18_awake [] h00).map (·.1) = some (.b true) := by decide +kernel
theorem T18_ok : TOk Try.prog lk T18 := with_ok tb_ok (alone tb_ok mixed awakes)
theorem tabL18 : TabL18 T18 := ⟨⟨⟨⟨⟨rfl, rfl, rfl, rfl, rfl, rfl⟩, rfl⟩, rfl, rfl⟩, rfl, rfl, rfl, rfl, rfl, rfl, rfl, rfl, rfl⟩, rfl⟩
theorem kids : Kids Try.prog (· < Try.prog.types.size) := kids_rows (by kernel_rfl) (by kernel_rfl)
theorem slcs : slicesB Try.prog = true := by kernel_rfl
theorem own : ownKnob Try.prog.godebug = none := by kernel_rfl
variable {W : World}
theorem op_u8 : Op Try.prog W 5 1 fun ps => ∃ n, IntKind.u8.min ≤ n ∧ n ≤ IntKind.u8.max ∧ ps = [.i .u8 n] := op_int Try.underlying5
theorem of_u8 (ps : List PV) (h : (∃ n, IntKind.u8.min ≤ n ∧ n ≤ IntKind.u8.max ∧ ps = [PV.i .u8 n]) ∧ ps.length = 1) : ∃ c, ps = c8 c := by
  obtain ⟨⟨n, h1, h2, rfl⟩, _⟩ := h
  refine ⟨UInt8.ofInt n, ?_⟩
  have h1 : 0 ≤ n := h1
  have h2 : n ≤ 255 := h2
  simp only [c8]
  rw [u8int n h1 (by omega)]
def isI (ps : List PV) : Prop := ∃ n, IntKind.i64.min ≤ n ∧ n ≤ IntKind.i64.max ∧ ps = [.i .i64 n]
theorem op_i64 : Op Try.prog W 3 1 isI := op_int Try.underlying3
theorem op_note : Op Try.prog W 23 4 (Parts [(1, isI), (1, isI), (1, isI), (1, isI)]) :=
  op_struct Try.underlying23 [(3, 1, isI), (3, 1, isI), (3, 1, isI), (3, 1, isI)] (by simp; exact op_i64) rfl (fun i f hi => by
    match i, hi with
    | 0, hi => cases hi; exact ⟨_, rfl, rfl, rfl, by kernel_rfl⟩
    | 1, hi => cases hi; exact ⟨_, rfl, rfl, rfl, by kernel_rfl⟩
    | 2, hi => cases hi; exact ⟨_, rfl, rfl, rfl, by kernel_rfl⟩
    | 3, hi => cases hi; exact ⟨_, rfl, rfl, rfl, by kernel_rfl⟩
    | i + 4, hi => cases hi) (by kernel_rfl)
theorem of_note (ps : List PV) (h : Parts [(1, isI), (1, isI), (1, isI), (1, isI)] ps) : ∃ n, ps = cN n := by
  obtain ⟨_, _, rfl, ⟨k, _, _, rfl⟩, _, _, _, rfl, ⟨a, _, _, rfl⟩, _, _, _, rfl, ⟨b, _, _, rfl⟩, _, _, _, rfl, ⟨c, _, _, rfl⟩, _, rfl⟩ := h
  exact ⟨⟨k, a, b, c⟩, rfl⟩
theorem op_three : Op Try.prog W 29 3 (Parts (List.replicate 3 (1, isI))) := op_array Try.underlying29 op_i64 (by kernel_rfl) (by kernel_rfl)
theorem of_three (ps : List PV) (h : Parts (List.replicate 3 (1, isI)) ps) : ∃ a b c, ps = [.i .i64 a, .i .i64 b, .i .i64 c] := by
  obtain ⟨_, _, rfl, ⟨a, _, _, rfl⟩, _, _, _, rfl, ⟨b, _, _, rfl⟩, _, _, _, rfl, ⟨c, _, _, rfl⟩, _, rfl⟩ := h
  exact ⟨a, b, c, rfl⟩
end Go.Proofs.Ytdcknhimmdmgoaa.Ab
