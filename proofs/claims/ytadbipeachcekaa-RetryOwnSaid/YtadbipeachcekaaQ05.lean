/- Seat of chapter 05: what its given statements share. -/
import Derived.Test.YtadbipeachcekaaMF
import Derived.Test.YtadbipeachcekaaY05h
import Derived.Test.YtadbipeachcekaaL05
import Derived.Test.YtadbipeachcekaaRows
import Derived.WalkKit
import Derived.ProofKit
import Derived.OpenShut
namespace Go.Proofs.Ytadbipeachcekaa.Ab
open Go Go.ChangeShapes Go.WideShapes Go.ChangeAt Go.RowKit
set_option linter.unusedVariables false
def T05 : AT := told tb i_stillagelaw05_awake (.b true)
theorem awakes : (exN tb 60 i_stillagelaw05_awake [] h00).map (·.1) = some (.b true) := by decide +kernel
theorem T05_ok : TOk Try.prog lk T05 := with_ok tb_ok (alone tb_ok mixed awakes)
theorem tabL05 : TabL T05 := ⟨⟨rfl, rfl, rfl, rfl, rfl, rfl, rfl, rfl, rfl, rfl, rfl, rfl, rfl, rfl, rfl, rfl, rfl, rfl⟩, rfl⟩
theorem kids : Kids Try.prog (· < Try.prog.types.size) := kids_rows (by kernel_rfl) (by kernel_rfl)
theorem slcs : slicesB Try.prog = true := by kernel_rfl
theorem own : ownKnob Try.prog.godebug = none := by kernel_rfl
end Go.Proofs.Ytadbipeachcekaa.Ab
