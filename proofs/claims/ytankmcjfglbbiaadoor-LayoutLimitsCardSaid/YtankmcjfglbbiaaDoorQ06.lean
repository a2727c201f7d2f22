/- Seat of chapter 06: what its given statements share. -/
import Derived.Test.YtankmcjfglbbiaaDoorMF
import Derived.Test.YtankmcjfglbbiaaDoorX06
import Derived.Test.YtankmcjfglbbiaaDoorRows
import Derived.WalkKit
import Derived.ProofKit
import Derived.OpenShut
namespace Go.Proofs.YtankmcjfglbbiaaDoor.Ab
open Go Go.ChangeShapes Go.WideShapes Go.ChangeAt Go.RowKit
set_option linter.unusedVariables false
theorem awakes : (exN tbS 100 i_stillagelaw06_awake [] h00).map (·.1) = some (.b true) := by decide +kernel
def T06 : AT := told tbS i_stillagelaw06_awake (.b true)
theorem T06_ok : TOk Tryd.prog lk T06 := with_ok tbS_ok (alone tbS_ok mixed awakes)
theorem kids : Kids Tryd.prog (· < Tryd.prog.types.size) := kids_rows (by kernel_rfl) (by kernel_rfl)
theorem slcs : slicesB Tryd.prog = true := by kernel_rfl
theorem own : ownKnob Tryd.prog.godebug = none := by kernel_rfl
end Go.Proofs.YtankmcjfglbbiaaDoor.Ab
