/- Seat of chapter 19: scripts as arguments. -/
import Derived.Test.YtfmkomjflhifnaaQ19
import Derived.Test.YtfmkomjflhifnaaY19r
namespace Go.Proofs.Ytfmkomjflhifnaa.Ab
open Go
abbrev tOp : TS := .cons (.int .i64) (.cons (.int .i64) (.cons (.list tNt) .nil))
theorem of_Op {ps : List PV} (h : tOp.S ps) : ∃ o : Op19, True ∧ ps = cOp o := by
  obtain ⟨_, _, rfl, ⟨k, _, _, rfl⟩, _, _, _, rfl, ⟨n, _, _, rfl⟩, _, _, _, rfl, h3, _, rfl⟩ := h
  obtain ⟨l, _, rfl⟩ := of_list (f := cN) (fun q h => of_Nt h) h3
  exact ⟨⟨k, n, l⟩, trivial, rfl⟩
end Go.Proofs.Ytfmkomjflhifnaa.Ab
