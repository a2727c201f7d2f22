/- Seat of chapter 20: what its given statements share. -/
import Derived.Test.YtpblhjaghkkdhaaMF
import Derived.Test.YtpblhjaghkkdhaaY20e
import Derived.Test.YtpblhjaghkkdhaaL20
import Derived.Test.YtpblhjaghkkdhaaRows
import Derived.WalkKit
import Derived.ProofKit
import Derived.OpenShut
namespace Go.Proofs.Ytpblhjaghkkdhaa.Ab
open Go Go.ChangeShapes Go.WideShapes Go.ChangeAt Go.RowKit
set_option linter.unusedVariables false
theorem tabA20 : TabA tb := ⟨⟨⟨rfl, rfl, rfl⟩, rfl, rfl, rfl, rfl, rfl, rfl, rfl, rfl, rfl, rfl, rfl, rfl, rfl, rfl, rfl⟩, rfl, rfl⟩
theorem kids : Kids Try.prog (· < Try.prog.types.size) := kids_rows (by kernel_rfl) (by kernel_rfl)
theorem slcs : slicesB Try.prog = true := by kernel_rfl
theorem own : ownKnob Try.prog.godebug = none := by kernel_rfl
abbrev tNd : TS := .cons .str (.cons (.int .i64) (.cons (.int .i64) .nil))
abbrev tEd : TS := .cons (.int .i64) (.cons (.int .i64) .nil)
abbrev tLay : TS := .cons (.list tNd) (.cons (.list tEd) .nil)
theorem of_Nd {ps : List PV} (h : tNd.S ps) : ∃ n : Nd, n.name.length ≤ 9223372036854775807 ∧ ps = cN n := by
  obtain ⟨_, _, rfl, ⟨s, hs, rfl⟩, _, _, _, rfl, ⟨k, _, _, rfl⟩, _, _, _, rfl, ⟨z, _, _, rfl⟩, _, rfl⟩ := h
  exact ⟨⟨s, k, z⟩, hs, rfl⟩
theorem of_Ed {ps : List PV} (h : tEd.S ps) : ∃ n : Ed, True ∧ ps = cD n := by
  obtain ⟨_, _, rfl, ⟨a, _, _, rfl⟩, _, _, _, rfl, ⟨b, _, _, rfl⟩, _, rfl⟩ := h
  exact ⟨⟨a, b⟩, trivial, rfl⟩
theorem of_Lay {ps : List PV} (h : tLay.S ps) : ∃ l : Lay, (∀ x ∈ l.ns, x.name.length ≤ 9223372036854775807) ∧ ps = [.fz 3 (l.ns.map cN), .fz 2 (l.es.map cD)] := by
  obtain ⟨_, _, rfl, h1, _, _, _, rfl, h2, _, rfl⟩ := h
  obtain ⟨ns, ⟨hn, _⟩, rfl⟩ := of_list (f := cN) (fun q h => of_Nd h) h1
  obtain ⟨es, _, rfl⟩ := of_list (f := cD) (fun q h => of_Ed h) h2
  exact ⟨⟨ns, es⟩, hn, rfl⟩
abbrev tTe : TS := .cons (.int .u8) (.cons (.int .u16) (.cons (.int .u16) (.cons (.int .u16) (.cons (.int .u16) .nil))))
abbrev tO20 : TS := .cons (.int .i64) (.cons (.int .i64) (.cons (.int .i64) (.cons tTe .nil)))
theorem of_O20 {ps : List PV} (h : tO20.S ps) : ∃ o : Op20, o.t.Ok ∧ ps = cO o := by
  obtain ⟨_, _, rfl, ⟨k, _, _, rfl⟩, _, _, _, rfl, ⟨a, _, _, rfl⟩, _, _, _, rfl, ⟨b, _, _, rfl⟩, _, _, _, rfl, ⟨_, _, rfl, ⟨tk, k1, k2, rfl⟩, _, _, _, rfl, ⟨td, d1, d2, rfl⟩, _, _, _, rfl, ⟨ts, s1, s2, rfl⟩, _, _, _, rfl, ⟨ta, a1, a2, rfl⟩, _, _, _, rfl, ⟨tb, b1, b2, rfl⟩, _, rfl⟩, _, rfl⟩ := h
  refine ⟨⟨k, a, b, ⟨tk, td, ts, ta, tb⟩⟩, ⟨?_, ?_, ?_, ?_, ?_⟩, rfl⟩
  · exact ⟨k1, Int.lt_of_le_of_lt k2 (by decide)⟩
  · exact ⟨d1, Int.lt_of_le_of_lt d2 (by decide)⟩
  · exact ⟨s1, Int.lt_of_le_of_lt s2 (by decide)⟩
  · exact ⟨a1, Int.lt_of_le_of_lt a2 (by decide)⟩
  · exact ⟨b1, Int.lt_of_le_of_lt b2 (by decide)⟩
end Go.Proofs.Ytpblhjaghkkdhaa.Ab
