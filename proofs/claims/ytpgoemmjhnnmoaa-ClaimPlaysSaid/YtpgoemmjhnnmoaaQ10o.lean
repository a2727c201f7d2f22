/- Seat of chapter 10: calls of a script, as arguments. -/
import Derived.Test.YtpgoemmjhnnmoaaQ10
import Derived.Test.YtpgoemmjhnnmoaaY10v
namespace Go.Proofs.Ytpgoemmjhnnmoaa.Ab
open Go
abbrev tO : TS := .cons (.int .i64) (.cons (.int .i64) (.cons (.int .i64) (.cons (.list (.int .i64)) .nil)))
theorem of_O {ps : List PV} (h : tO.S ps) : ∃ o, ((∀ x ∈ O10.nodes o, inK .i64 x) ∧ o.nodes.length ≤ 9223372036854775807) ∧ ps = cO o := by
  obtain ⟨_, _, rfl, ⟨a, _, _, rfl⟩, _, _, _, rfl, ⟨b, _, _, rfl⟩, _, _, _, rfl, ⟨c, _, _, rfl⟩, _, _, _, rfl, hl, _, rfl⟩ := h
  obtain ⟨l, hl2, rfl⟩ := of_ints hl
  exact ⟨⟨a, b, c, l⟩, hl2, rfl⟩
end Go.Proofs.Ytpgoemmjhnnmoaa.Ab
