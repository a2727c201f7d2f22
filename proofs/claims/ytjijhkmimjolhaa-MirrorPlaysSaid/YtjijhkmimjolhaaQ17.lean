/- Seat of chapter 17: what its given statements share. -/
import Derived.Test.YtjijhkmimjolhaaMF
import Derived.Test.YtjijhkmimjolhaaY17f
import Derived.Test.YtjijhkmimjolhaaL17
import Derived.Test.YtjijhkmimjolhaaRows
import Derived.WalkKit
import Derived.ProofKit
import Derived.OpenShut
namespace Go.Proofs.Ytjijhkmimjolhaa.Ab
open Go Go.ChangeShapes Go.WideShapes Go.ChangeAt Go.RowKit
set_option linter.unusedVariables false
theorem tabW17 : TabW tb := ⟨⟨⟨rfl, rfl, rfl⟩, rfl, rfl, rfl, rfl, rfl, rfl, rfl, rfl, rfl, rfl, rfl, rfl, rfl, rfl, rfl, rfl, rfl, rfl, rfl, rfl⟩, rfl, rfl⟩
theorem kids : Kids Try.prog (· < Try.prog.types.size) := kids_rows (by kernel_rfl) (by kernel_rfl)
theorem slcs : slicesB Try.prog = true := by kernel_rfl
theorem own : ownKnob Try.prog.godebug = none := by kernel_rfl
abbrev tNd : TS := .cons .str (.cons (.int .i64) (.cons (.int .i64) .nil))
abbrev tEd : TS := .cons (.int .i64) (.cons (.int .i64) .nil)
abbrev tLay : TS := .cons (.list tNd) (.cons (.list tEd) .nil)
theorem of_Nd {ps : List PV} (h : tNd.S ps) : ∃ n : Nd, n.name.length ≤ 9223372036854775807 ∧ ps = cN n := by
  obtain ⟨_, _, rfl, ⟨s, hs, rfl⟩, _, _, _, rfl, ⟨k, _, _, rfl⟩, _, _, _, rfl, ⟨z, _, _, rfl⟩, _, rfl⟩ := h
  exact ⟨⟨s, k, z⟩, hs, rfl⟩
theorem of_Ed {ps : List PV} (h : tEd.S ps) : ∃ n : Ed, True ∧ ps = cD n := by
  obtain ⟨_, _, rfl, ⟨a, _, _, rfl⟩, _, _, _, rfl, ⟨b, _, _, rfl⟩, _, rfl⟩ := h
  exact ⟨⟨a, b⟩, trivial, rfl⟩
theorem of_Lay {ps : List PV} (h : tLay.S ps) : ∃ l : Lay, (∀ x ∈ l.ns, x.name.length ≤ 9223372036854775807) ∧ ps = [.fz 3 (l.ns.map cN), .fz 2 (l.es.map cD)] := by
  obtain ⟨_, _, rfl, h1, _, _, _, rfl, h2, _, rfl⟩ := h
  obtain ⟨ns, ⟨hn, _⟩, rfl⟩ := of_list (f := cN) (fun q h => of_Nd h) h1
  obtain ⟨es, _, rfl⟩ := of_list (f := cD) (fun q h => of_Ed h) h2
  exact ⟨⟨ns, es⟩, hn, rfl⟩
abbrev tNt : TS := .cons (.int .i64) (.cons (.int .i64) (.cons (.int .i64) (.cons (.int .i64) .nil)))
theorem of_Nt {ps : List PV} (h : tNt.S ps) : ∃ n : Nt, True ∧ ps = cNt n := by
  obtain ⟨_, _, rfl, ⟨k, _, _, rfl⟩, _, _, _, rfl, ⟨a, _, _, rfl⟩, _, _, _, rfl, ⟨b, _, _, rfl⟩, _, _, _, rfl, ⟨c, _, _, rfl⟩, _, rfl⟩ := h
  exact ⟨⟨k, a, b, c⟩, trivial, rfl⟩
abbrev tPr : TS := .cons (.int .i64) (.cons (.int .i64) .nil)
theorem of_Pr {ps : List PV} (h : tPr.S ps) : ∃ a b : Int, ps = [.i .i64 a, .i .i64 b] := by
  obtain ⟨_, _, rfl, ⟨a, _, _, rfl⟩, _, _, _, rfl, ⟨b, _, _, rfl⟩, _, rfl⟩ := h
  exact ⟨a, b, rfl⟩
end Go.Proofs.Ytjijhkmimjolhaa.Ab
