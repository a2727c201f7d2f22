/- Seat of chapter 05: a sender's settings as an argument. -/
import Derived.Test.YtadbipeachcekaaQ05
namespace Go.Proofs.Ytadbipeachcekaa.Ab
open Go Go.ChangeShapes Go.WideShapes Go.ChangeAt Go.RowKit
set_option linter.unusedVariables false
abbrev tHow : TS := .cons (.int .i64) (.cons (.int .i64) (.cons (.int .i64) (.cons (.int .u16) .nil)))
structure How where
  w : Int
  p : Int
  t : Int
  f : Int
theorem of_How {ps : List PV} (h : tHow.S ps) : ∃ x : How, (0 ≤ x.f ∧ x.f < 65536) ∧ ps = [.i .i64 x.w, .i .i64 x.p, .i .i64 x.t, .i .u16 x.f] := by
  obtain ⟨_, _, rfl, ⟨w, _, _, rfl⟩, _, _, _, rfl, ⟨p, _, _, rfl⟩, _, _, _, rfl, ⟨t, _, _, rfl⟩, _, _, _, rfl, ⟨f, h1, h2, rfl⟩, _, rfl⟩ := h
  exact ⟨⟨w, p, t, f⟩, ⟨h1, Int.lt_add_one_of_le h2⟩, rfl⟩
end Go.Proofs.Ytadbipeachcekaa.Ab
