/- Seat of chapter 16: moves, as arguments. -/
import Derived.Test.YthnoccmngpoibaaQ16
import Derived.Test.YthnoccmngpoibaaY16j
namespace Go.Proofs.Ythnoccmngpoibaa.Ab
open Go
abbrev tM : TS := .cons (.int .i64) (.cons (.cons (.int .i64) (.cons (.int .i64) (.cons (.int .i64) .nil))) .nil)
theorem of_M {ps : List PV} (h : tM.S ps) : ∃ m, True ∧ ps = cM m := by
  obtain ⟨_, _, rfl, ⟨a, _, _, rfl⟩, _, _, _, rfl, ⟨_, _, rfl, ⟨b, _, _, rfl⟩, _, _, _, rfl, ⟨c, _, _, rfl⟩, _, _, _, rfl, ⟨d, _, _, rfl⟩, _, rfl⟩, _, rfl⟩ := h
  exact ⟨⟨a, b, c, d⟩, trivial, rfl⟩
end Go.Proofs.Ythnoccmngpoibaa.Ab
