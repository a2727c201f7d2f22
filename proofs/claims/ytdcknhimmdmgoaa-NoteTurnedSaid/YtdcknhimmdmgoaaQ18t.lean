/- Seat of chapter 18: a note and three numbers as arguments. -/
import Derived.Test.YtdcknhimmdmgoaaQ18
namespace Go.Proofs.Ytdcknhimmdmgoaa.Ab
open Go
abbrev tNt : TS := .cons (.int .i64) (.cons (.int .i64) (.cons (.int .i64) (.cons (.int .i64) .nil)))
abbrev tA3 : TS := .cons (.int .i64) (.cons (.int .i64) (.cons (.int .i64) .nil))
theorem of_Nt {ps : List PV} (h : tNt.S ps) : ∃ n : Nt, ps = cN n := by
  obtain ⟨_, _, rfl, ⟨k, _, _, rfl⟩, _, _, _, rfl, ⟨a, _, _, rfl⟩, _, _, _, rfl, ⟨b, _, _, rfl⟩, _, _, _, rfl, ⟨c, _, _, rfl⟩, _, rfl⟩ := h
  exact ⟨⟨k, a, b, c⟩, rfl⟩
theorem of_A3 {ps : List PV} (h : tA3.S ps) : ∃ a b c : Int, ps = [.i .i64 a, .i .i64 b, .i .i64 c] := by
  obtain ⟨_, _, rfl, ⟨a, _, _, rfl⟩, _, _, _, rfl, ⟨b, _, _, rfl⟩, _, _, _, rfl, ⟨c, _, _, rfl⟩, _, rfl⟩ := h
  exact ⟨a, b, c, rfl⟩
end Go.Proofs.Ytdcknhimmdmgoaa.Ab
