/- Seat of chapter 20: the document's plant. -/
import Derived.Test.YtpblhjaghkkdhaaQ20
import Derived.Test.YtpblhjaghkkdhaaY20t
namespace Go.Proofs.Ytpblhjaghkkdhaa.Ab
open Go
theorem tabR20 : TabR20 tb := ⟨⟨rfl, rfl, rfl⟩, ⟨rfl, rfl⟩, rfl, rfl, rfl, rfl, rfl, rfl, rfl, rfl, rfl, rfl⟩
theorem tabV20 : TabV tb := ⟨tabA20, tabR20⟩
end Go.Proofs.Ytpblhjaghkkdhaa.Ab
