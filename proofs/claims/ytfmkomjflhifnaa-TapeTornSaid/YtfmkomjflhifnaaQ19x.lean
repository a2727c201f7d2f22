/- Seat of chapter 19: lists of notes as arguments. -/
import Derived.Test.YtfmkomjflhifnaaQ19
import Derived.Test.YtfmkomjflhifnaaY19x
namespace Go.Proofs.Ytfmkomjflhifnaa.Ab
open Go
theorem of_Ll {ps : List PV} (h : (TS.list tNt).S ps) : ∃ l : List Nt, True ∧ ps = cLl l := by
  obtain ⟨l, _, rfl⟩ := of_list (f := cN) (fun q h => of_Nt h) h
  exact ⟨l, trivial, rfl⟩
end Go.Proofs.Ytfmkomjflhifnaa.Ab
