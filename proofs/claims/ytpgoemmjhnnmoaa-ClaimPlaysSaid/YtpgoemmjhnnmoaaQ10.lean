/- Seat of chapter 10: what its given statements share. -/
import Derived.Test.YtpgoemmjhnnmoaaMF
import Derived.Test.YtpgoemmjhnnmoaaY10i
import Derived.Test.YtpgoemmjhnnmoaaL10
import Derived.Test.YtpgoemmjhnnmoaaRows
import Derived.WalkKit
import Derived.ProofKit
import Derived.OpenShut
namespace Go.Proofs.Ytpgoemmjhnnmoaa.Ab
open Go Go.ChangeShapes Go.WideShapes Go.ChangeAt Go.RowKit
set_option linter.unusedVariables false
def T10 : AT := told tb i_stillagelaw10_awake (.b true)
theorem awakes : (exN tb 40 i_stillagelaw10_awake [] h00).map (·.1) = some (.b true) := by decide +kernel
theorem T10_ok : TOk Try.prog lk T10 := with_ok tb_ok (alone tb_ok mixed awakes)
theorem tabL10 : TabL10 T10 := ⟨⟨⟨⟨⟨⟨rfl, rfl, rfl, rfl⟩, rfl, rfl, rfl⟩, rfl, rfl, rfl, rfl, rfl, rfl⟩, rfl⟩, rfl, rfl, rfl, rfl⟩, rfl⟩
theorem kids : Kids Try.prog (· < Try.prog.types.size) := kids_rows (by kernel_rfl) (by kernel_rfl)
theorem slcs : slicesB Try.prog = true := by kernel_rfl
theorem own : ownKnob Try.prog.godebug = none := by kernel_rfl
variable {W : World}
def isI (ps : List PV) : Prop := ∃ n, IntKind.i64.min ≤ n ∧ n ≤ IntKind.i64.max ∧ ps = [.i .i64 n]
theorem op_i64 : Op Try.prog W 3 1 isI := op_int Try.underlying3
theorem of_i64 (ps : List PV) (h : isI ps ∧ ps.length = 1) : ∃ n, ps = cI n := by
  obtain ⟨⟨n, _, _, rfl⟩, _⟩ := h
  exact ⟨n, rfl⟩
theorem of_ints {ps : List PV} (h : (TS.list (.int .i64)).S ps) : ∃ l : List Int, ((∀ x ∈ l, inK .i64 x) ∧ l.length ≤ 9223372036854775807) ∧ ps = [.fz 1 (l.map cI)] := of_list (f := cI) (fun q h => of_int h) h
end Go.Proofs.Ytpgoemmjhnnmoaa.Ab
