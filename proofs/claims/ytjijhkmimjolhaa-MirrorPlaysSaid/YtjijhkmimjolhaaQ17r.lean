/- Seat of chapter 17: the document's mirror. -/
import Derived.Test.YtjijhkmimjolhaaQ17
import Derived.Test.YtjijhkmimjolhaaY17t
namespace Go.Proofs.Ytjijhkmimjolhaa.Ab
open Go
theorem tabR17 : TabR17 tb := ⟨⟨rfl, rfl, rfl⟩, ⟨rfl, rfl⟩, rfl, rfl, rfl, rfl, rfl, rfl, rfl, rfl, rfl, rfl, rfl, rfl, rfl, rfl, rfl, rfl, rfl⟩
theorem tabV17 : TabV tb := ⟨tabW17, tabR17⟩
end Go.Proofs.Ytjijhkmimjolhaa.Ab
