/- Seat of chapter 19: what its given statements share. -/
import Derived.Test.YtfmkomjflhifnaaMF
import Derived.Test.YtfmkomjflhifnaaY19q
import Derived.Test.YtfmkomjflhifnaaL19
import Derived.Test.YtfmkomjflhifnaaRows
import Derived.WalkKit
import Derived.ProofKit
import Derived.OpenShut
namespace Go.Proofs.Ytfmkomjflhifnaa.Ab
open Go Go.ChangeShapes Go.WideShapes Go.ChangeAt Go.RowKit
set_option linter.unusedVariables false
def T19 : AT := told tb i_stillagelaw19_awake (.b true)
theorem awakes : (exN tb 60 i_stillagelaw19_awake [] h00).map (·.1) = some (.b true) := by decide +kernel
theorem T19_ok : TOk Try.prog lk T19 := with_ok tb_ok (alone tb_ok mixed awakes)
theorem tabL19 : TabL19 T19 := ⟨⟨⟨⟨⟨⟨⟨rfl, rfl, rfl, rfl, rfl, rfl⟩, rfl⟩, rfl, rfl⟩, rfl, rfl, rfl, rfl, rfl, rfl, rfl, rfl⟩, rfl, rfl, rfl, rfl, rfl, rfl, rfl, rfl, rfl, rfl, rfl, rfl, rfl, rfl, rfl, rfl, rfl⟩, rfl, rfl, rfl, rfl, rfl, rfl, rfl, rfl, rfl, rfl, rfl⟩, rfl⟩
theorem kids : Kids Try.prog (· < Try.prog.types.size) := kids_rows (by kernel_rfl) (by kernel_rfl)
theorem slcs : slicesB Try.prog = true := by kernel_rfl
theorem own : ownKnob Try.prog.godebug = none := by kernel_rfl
abbrev tNt : TS := .cons (.int .i64) (.cons (.int .i64) (.cons (.int .i64) (.cons (.int .i64) .nil)))
theorem of_Nt {ps : List PV} (h : tNt.S ps) : ∃ n : Nt, True ∧ ps = cN n := by
  obtain ⟨_, _, rfl, ⟨k, _, _, rfl⟩, _, _, _, rfl, ⟨a, _, _, rfl⟩, _, _, _, rfl, ⟨b, _, _, rfl⟩, _, _, _, rfl, ⟨c, _, _, rfl⟩, _, rfl⟩ := h
  exact ⟨⟨k, a, b, c⟩, trivial, rfl⟩
end Go.Proofs.Ytfmkomjflhifnaa.Ab
