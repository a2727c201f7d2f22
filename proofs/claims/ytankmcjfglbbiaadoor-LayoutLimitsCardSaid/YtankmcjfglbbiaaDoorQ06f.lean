/- Seat of chapter 06: a layout as an argument; the frame of a row that lays variables. -/
import Derived.Test.YtankmcjfglbbiaaDoorQ06
import Derived.Test.YtankmcjfglbbiaaDoorY06b
import Derived.MakeChecks
import Derived.LaidLaws
import Derived.Lay
import Derived.SevenTiedAt
import Derived.Test.YtankmcjfglbbiaaDoorTie
import Derived.Test.YtankmcjfglbbiaaDoorCards
namespace Go.Proofs.YtankmcjfglbbiaaDoor.Ab
open Go Go.ChangeShapes Go.WideShapes Go.ChangeAt Go.RowKit
set_option linter.unusedVariables false
theorem tabF06 : TabF T06 := ⟨⟨rfl, rfl, rfl⟩, ⟨rfl, rfl⟩, ⟨rfl, rfl, rfl⟩, rfl, rfl, rfl, rfl, rfl⟩
abbrev tNd : TS := .cons .str (.cons (.int .i64) (.cons (.int .i64) .nil))
abbrev tEd : TS := .cons (.int .i64) (.cons (.int .i64) .nil)
abbrev tLay : TS := .cons (.list tNd) (.cons (.list tEd) .nil)
theorem of_Nd {ps : List PV} (h : tNd.S ps) : ∃ n : Nd, n.name.length ≤ 9223372036854775807 ∧ ps = cN n := by
  obtain ⟨_, _, rfl, ⟨s, hs, rfl⟩, _, _, _, rfl, ⟨k, _, _, rfl⟩, _, _, _, rfl, ⟨z, _, _, rfl⟩, _, rfl⟩ := h
  exact ⟨⟨s, k, z⟩, hs, rfl⟩
theorem of_Ed {ps : List PV} (h : tEd.S ps) : ∃ n : Ed, True ∧ ps = cD n := by
  obtain ⟨_, _, rfl, ⟨a, _, _, rfl⟩, _, _, _, rfl, ⟨b, _, _, rfl⟩, _, rfl⟩ := h
  exact ⟨⟨a, b⟩, trivial, rfl⟩
theorem of_Lay {ps : List PV} (h : tLay.S ps) : ∃ l : Lay, ((∀ x ∈ l.ns, x.name.length ≤ 9223372036854775807) ∧ l.ns.length ≤ 9223372036854775807 ∧ l.es.length ≤ 9223372036854775807) ∧ ps = [.fz 3 (l.ns.map cN), .fz 2 (l.es.map cD)] := by
  obtain ⟨_, _, rfl, h1, _, _, _, rfl, h2, _, rfl⟩ := h
  obtain ⟨ns, ⟨hn, hnl⟩, rfl⟩ := of_list (f := cN) (fun q h => of_Nd h) h1
  obtain ⟨es, ⟨_, hel⟩, rfl⟩ := of_list (f := cD) (fun q h => of_Ed h) h2
  exact ⟨⟨ns, es⟩, ⟨hn, hnl, hel⟩, rfl⟩
end Go.Proofs.YtankmcjfglbbiaaDoor.Ab
