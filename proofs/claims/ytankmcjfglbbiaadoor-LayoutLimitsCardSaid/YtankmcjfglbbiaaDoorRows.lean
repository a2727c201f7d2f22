/-
  NARROWER THAN 'FOR EVERY INPUT', by the rows' own cells (each row's printed sentence says how): LayoutLimits: laid · LayoutFinds: laid · LayoutChecks: laid · LayoutBack: laid · LayoutLines: laid.
  DERIVED. THE GIVEN ROWS OF THIS SEAT. 5 by the template 'for every input the law returns true; each argument reads behind the call as it read before'; 0 by the template 'total and deterministic' (their statements: YtankmcjfglbbiaaDoorTotals.lean).
  GIVEN WITH THE SEED: the statements are not yours to turn. If you find one false, say at which input.
  Laid BY PROGRAM, IN A SANDBOX (cutbox-rows.mjs): the forced cells as the released guide's own fill.sh prints them over the translation 7516ec4f8a3ebe74… (all of the seat's roots in one cut). By AI agents, Wed Nov 11 2026. No macro, syntax, notation, axiom, sorry.
-/
import Derived.Test.YtankmcjfglbbiaaDoorChecked
import GoSem.PinnedTables
import GoSem.Claim
import GoSem.ClaimJoined
import GoSem.ClaimMapViews
import Derived.JoinedTies
import Derived.KernelRfl
namespace Go.Proofs.YtankmcjfglbbiaaDoor
/- THE CELL 'sum', in the pinned program and in every row, IS THE sha256 OF THE DUMP (.gsa) THAT YtankmcjfglbbiaaDoorProg.lean LOADS. Nothing in Lean hashes anything: it is a label: what it is worth is what the hold of that sum in a sandbox is worth. -/
noncomputable def Tryd.pinned : Pinned := { name := "ytankmcjfglbbiaadoor", sum := "7516ec4f8a3ebe74682b9eb2a1ea5ddc46067d1e617c322819b9b7aa88d2a846", checked := Tryd.checked }
namespace Rows
def none {H : Type} : Left H := { results := [], args := [] }

/- WHAT THE LISTED PACKAGE-LEVEL VARIABLES READ AS WHEN THE CALL BEGINS. Each datum BY PROGRAM (the guide's laid-datum.mjs) off the statement by which the dump's own 'gosem.cut.vars' lays the variable. In a bare row this is a premise. The card (YtankmcjfglbbiaaDoorCards.lean) ties it to the program's text. -/
def laid_unicode_utf8_acceptRanges {H : Type} : DataW H := .agg [.agg [.lit (.int .u8 128), .lit (.int .u8 191)], .agg [.lit (.int .u8 160), .lit (.int .u8 191)], .agg [.lit (.int .u8 128), .lit (.int .u8 159)], .agg [.lit (.int .u8 144), .lit (.int .u8 191)], .agg [.lit (.int .u8 128), .lit (.int .u8 143)], .agg [.lit (.int .u8 0), .lit (.int .u8 0)], .agg [.lit (.int .u8 0), .lit (.int .u8 0)], .agg [.lit (.int .u8 0), .lit (.int .u8 0)], .agg [.lit (.int .u8 0), .lit (.int .u8 0)], .agg [.lit (.int .u8 0), .lit (.int .u8 0)], .agg [.lit (.int .u8 0), .lit (.int .u8 0)], .agg [.lit (.int .u8 0), .lit (.int .u8 0)], .agg [.lit (.int .u8 0), .lit (.int .u8 0)], .agg [.lit (.int .u8 0), .lit (.int .u8 0)], .agg [.lit (.int .u8 0), .lit (.int .u8 0)], .agg [.lit (.int .u8 0), .lit (.int .u8 0)]]
/-- One of Go's own tables, pinned by name: the form's constant. -/
def laid_unicode_utf8_first : DataW Unit := Go.Pinned.utf8First

/-- 'stillagelaw06.LayoutLimits': WHATEVER THE INPUT: true; the input reads as it did. -/
def layoutLimitsSpec : ChangeSpec := { name := "layoutLimits", fn := fun _ => fun
  | [d1, d2] => { results := [.lit (.bool true)], args := [d1, d2] }
  | _ => none }
def layoutLimitsRow : OpenClaim := { program := "ytankmcjfglbbiaadoor", sum := "7516ec4f8a3ebe74682b9eb2a1ea5ddc46067d1e617c322819b9b7aa88d2a846", func := "stillage/stillagelaw06.LayoutLimits", spec := "layoutLimits", inPlace := ["internal/bytealg.CountString", "internal/bytealg.IndexByteString", "internal/bytealg.IndexString"], unfollowed := true, recurses := true, named := ["unicode/utf8.first", "unicode/utf8.acceptRanges", "internal/bytealg.MaxLen"], plainKeys := false, apart := false, laid := [("unicode/utf8.acceptRanges", laid_unicode_utf8_acceptRanges), ("unicode/utf8.first", laid_unicode_utf8_first)] }
def LayoutLimitsSaid : Prop := layoutLimitsRow.holds Tryd.pinned (OpenSpec.ofChange layoutLimitsSpec)

/-- ITS FALSE NEIGHBOUR: 'it returns false'. Refute it at one input. -/
def layoutLimitsWrong : ChangeSpec := { name := "layoutLimits", fn := fun _ => fun
  | [d1, d2] => { results := [.lit (.bool false)], args := [d1, d2] }
  | _ => none }
def LayoutLimitsWrongFalsely : Prop := layoutLimitsRow.holds Tryd.pinned (OpenSpec.ofChange layoutLimitsWrong)

/-- 'stillagelaw06.LayoutFinds': WHATEVER THE INPUT: true; the input reads as it did. -/
def layoutFindsSpec : ChangeSpec := { name := "layoutFinds", fn := fun _ => fun
  | [d1, d2, d3] => { results := [.lit (.bool true)], args := [d1, d2, d3] }
  | _ => none }
def layoutFindsRow : OpenClaim := { program := "ytankmcjfglbbiaadoor", sum := "7516ec4f8a3ebe74682b9eb2a1ea5ddc46067d1e617c322819b9b7aa88d2a846", func := "stillage/stillagelaw06.LayoutFinds", spec := "layoutFinds", inPlace := ["internal/bytealg.CountString", "internal/bytealg.IndexByteString", "internal/bytealg.IndexString"], unfollowed := true, recurses := true, named := ["unicode/utf8.first", "unicode/utf8.acceptRanges", "internal/bytealg.MaxLen"], plainKeys := false, apart := false, laid := [("unicode/utf8.acceptRanges", laid_unicode_utf8_acceptRanges), ("unicode/utf8.first", laid_unicode_utf8_first)] }
def LayoutFindsSaid : Prop := layoutFindsRow.holds Tryd.pinned (OpenSpec.ofChange layoutFindsSpec)

/-- ITS FALSE NEIGHBOUR: 'it returns false'. Refute it at one input. -/
def layoutFindsWrong : ChangeSpec := { name := "layoutFinds", fn := fun _ => fun
  | [d1, d2, d3] => { results := [.lit (.bool false)], args := [d1, d2, d3] }
  | _ => none }
def LayoutFindsWrongFalsely : Prop := layoutFindsRow.holds Tryd.pinned (OpenSpec.ofChange layoutFindsWrong)

/-- 'stillagelaw06.LayoutChecks': WHATEVER THE INPUT: true; the input reads as it did. -/
def layoutChecksSpec : ChangeSpec := { name := "layoutChecks", fn := fun _ => fun
  | [d] => { results := [.lit (.bool true)], args := [d] }
  | _ => none }
def layoutChecksRow : OpenClaim := { program := "ytankmcjfglbbiaadoor", sum := "7516ec4f8a3ebe74682b9eb2a1ea5ddc46067d1e617c322819b9b7aa88d2a846", func := "stillage/stillagelaw06.LayoutChecks", spec := "layoutChecks", inPlace := ["internal/bytealg.CountString", "internal/bytealg.IndexByteString", "internal/bytealg.IndexString", "internal/abi.NoEscape"], unfollowed := true, recurses := true, named := ["unicode/utf8.first", "unicode/utf8.acceptRanges", "internal/bytealg.MaxLen"], plainKeys := false, apart := false, laid := [("unicode/utf8.acceptRanges", laid_unicode_utf8_acceptRanges), ("unicode/utf8.first", laid_unicode_utf8_first)] }
def LayoutChecksSaid : Prop := layoutChecksRow.holds Tryd.pinned (OpenSpec.ofChange layoutChecksSpec)

/-- ITS FALSE NEIGHBOUR: 'it returns false'. Refute it at one input. -/
def layoutChecksWrong : ChangeSpec := { name := "layoutChecks", fn := fun _ => fun
  | [d] => { results := [.lit (.bool false)], args := [d] }
  | _ => none }
def LayoutChecksWrongFalsely : Prop := layoutChecksRow.holds Tryd.pinned (OpenSpec.ofChange layoutChecksWrong)

/-- 'stillagelaw06.LayoutBack': WHATEVER THE INPUT: true; the input reads as it did. -/
def layoutBackSpec : ChangeSpec := { name := "layoutBack", fn := fun _ => fun
  | [d1, d2] => { results := [.lit (.bool true)], args := [d1, d2] }
  | _ => none }
def layoutBackRow : OpenClaim := { program := "ytankmcjfglbbiaadoor", sum := "7516ec4f8a3ebe74682b9eb2a1ea5ddc46067d1e617c322819b9b7aa88d2a846", func := "stillage/stillagelaw06.LayoutBack", spec := "layoutBack", inPlace := ["internal/bytealg.CountString", "internal/bytealg.IndexByteString", "internal/bytealg.IndexString", "internal/abi.NoEscape"], unfollowed := true, recurses := true, named := ["unicode/utf8.first", "unicode/utf8.acceptRanges", "internal/bytealg.MaxLen"], plainKeys := false, apart := false, laid := [("unicode/utf8.acceptRanges", laid_unicode_utf8_acceptRanges), ("unicode/utf8.first", laid_unicode_utf8_first)] }
def LayoutBackSaid : Prop := layoutBackRow.holds Tryd.pinned (OpenSpec.ofChange layoutBackSpec)

/-- ITS FALSE NEIGHBOUR: 'it returns false'. Refute it at one input. -/
def layoutBackWrong : ChangeSpec := { name := "layoutBack", fn := fun _ => fun
  | [d1, d2] => { results := [.lit (.bool false)], args := [d1, d2] }
  | _ => none }
def LayoutBackWrongFalsely : Prop := layoutBackRow.holds Tryd.pinned (OpenSpec.ofChange layoutBackWrong)

/-- 'stillagelaw06.LayoutLines': WHATEVER THE INPUT: true; the input reads as it did. -/
def layoutLinesSpec : ChangeSpec := { name := "layoutLines", fn := fun _ => fun
  | [d1, d2, d3] => { results := [.lit (.bool true)], args := [d1, d2, d3] }
  | _ => none }
def layoutLinesRow : OpenClaim := { program := "ytankmcjfglbbiaadoor", sum := "7516ec4f8a3ebe74682b9eb2a1ea5ddc46067d1e617c322819b9b7aa88d2a846", func := "stillage/stillagelaw06.LayoutLines", spec := "layoutLines", inPlace := ["internal/bytealg.CountString", "internal/bytealg.IndexByteString", "internal/bytealg.IndexString", "internal/abi.NoEscape"], unfollowed := true, recurses := true, named := ["unicode/utf8.first", "unicode/utf8.acceptRanges", "internal/bytealg.MaxLen"], plainKeys := false, apart := false, laid := [("unicode/utf8.acceptRanges", laid_unicode_utf8_acceptRanges), ("unicode/utf8.first", laid_unicode_utf8_first)] }
def LayoutLinesSaid : Prop := layoutLinesRow.holds Tryd.pinned (OpenSpec.ofChange layoutLinesSpec)

/-- ITS FALSE NEIGHBOUR: 'it returns false'. Refute it at one input. -/
def layoutLinesWrong : ChangeSpec := { name := "layoutLines", fn := fun _ => fun
  | [d1, d2, d3] => { results := [.lit (.bool false)], args := [d1, d2, d3] }
  | _ => none }
def LayoutLinesWrongFalsely : Prop := layoutLinesRow.holds Tryd.pinned (OpenSpec.ofChange layoutLinesWrong)

/- THE SECOND FORM. 'bulk': how many values and letters a reading holds, each counted each time it is reached (what is shared counts as often as it is met; a slice's spare places count too). A statement '..UptoSaid' is the law's where the arguments, and the package variables that the reading takes, are together of bulk at most 1048576: NARROWER than '..Said'. Prove '..Said' where nothing that the law and all that it calls make is longer than what came in: it says more and counts as full. Else prove '..UptoSaid'. A law counts once. -/
mutual
def uptoBulk {H : Type} : DataW H → Nat
  | .lit (.string bytes) => bytes.length + 1
  | .lit _ => 1
  | .nil => 1
  | .ptr d => uptoBulk d + 1
  | .slice elems spare => uptoBulkAll elems + uptoBulkAll spare + 1
  | .agg parts => uptoBulkAll parts + 1
  | .iface _ d => uptoBulk d + 1
  | .map entries => uptoBulkEntries entries + 1
  | .held _ => 1
def uptoBulkAll {H : Type} : List (DataW H) → Nat
  | [] => 0
  | d :: r => uptoBulk d + uptoBulkAll r
def uptoBulkEntries {H : Type} : List (Lit × DataW H) → Nat
  | [] => 0
  | x :: r => uptoBulkEntry x + uptoBulkEntries r
def uptoBulkEntry {H : Type} : Lit × DataW H → Nat
  | (.string bytes, d) => bytes.length + uptoBulk d + 1
  | (_, d) => uptoBulk d + 1
 end
def uptoSmall : (H : Type) → List (DataW H) → Bool := fun _ ds => decide (uptoBulkAll ds ≤ 1048576)
def OpenSpec.upto (s : _root_.Go.ChangeSpec) : _root_.Go.OpenSpec := { _root_.Go.OpenSpec.ofChange s with cond := some uptoSmall }

/-- 'stillagelaw06.LayoutLimits', WHERE WHAT IT READS IS OF BULK AT MOST 1048576: true; the input reads as it did. -/
def layoutLimitsUptoRow : OpenClaim := { program := "ytankmcjfglbbiaadoor", sum := "7516ec4f8a3ebe74682b9eb2a1ea5ddc46067d1e617c322819b9b7aa88d2a846", func := "stillage/stillagelaw06.LayoutLimits", spec := "layoutLimits", inPlace := ["internal/bytealg.CountString", "internal/bytealg.IndexByteString", "internal/bytealg.IndexString"], unfollowed := true, recurses := true, named := ["unicode/utf8.first", "unicode/utf8.acceptRanges", "internal/bytealg.MaxLen"], plainKeys := false, apart := false, laid := [("unicode/utf8.acceptRanges", laid_unicode_utf8_acceptRanges), ("unicode/utf8.first", laid_unicode_utf8_first)], narrowed := true }
def LayoutLimitsUptoSaid : Prop := layoutLimitsUptoRow.holds Tryd.pinned (OpenSpec.upto layoutLimitsSpec)

/-- 'stillagelaw06.LayoutFinds', WHERE WHAT IT READS IS OF BULK AT MOST 1048576: true; the input reads as it did. -/
def layoutFindsUptoRow : OpenClaim := { program := "ytankmcjfglbbiaadoor", sum := "7516ec4f8a3ebe74682b9eb2a1ea5ddc46067d1e617c322819b9b7aa88d2a846", func := "stillage/stillagelaw06.LayoutFinds", spec := "layoutFinds", inPlace := ["internal/bytealg.CountString", "internal/bytealg.IndexByteString", "internal/bytealg.IndexString"], unfollowed := true, recurses := true, named := ["unicode/utf8.first", "unicode/utf8.acceptRanges", "internal/bytealg.MaxLen"], plainKeys := false, apart := false, laid := [("unicode/utf8.acceptRanges", laid_unicode_utf8_acceptRanges), ("unicode/utf8.first", laid_unicode_utf8_first)], narrowed := true }
def LayoutFindsUptoSaid : Prop := layoutFindsUptoRow.holds Tryd.pinned (OpenSpec.upto layoutFindsSpec)

/-- 'stillagelaw06.LayoutChecks', WHERE WHAT IT READS IS OF BULK AT MOST 1048576: true; the input reads as it did. -/
def layoutChecksUptoRow : OpenClaim := { program := "ytankmcjfglbbiaadoor", sum := "7516ec4f8a3ebe74682b9eb2a1ea5ddc46067d1e617c322819b9b7aa88d2a846", func := "stillage/stillagelaw06.LayoutChecks", spec := "layoutChecks", inPlace := ["internal/bytealg.CountString", "internal/bytealg.IndexByteString", "internal/bytealg.IndexString", "internal/abi.NoEscape"], unfollowed := true, recurses := true, named := ["unicode/utf8.first", "unicode/utf8.acceptRanges", "internal/bytealg.MaxLen"], plainKeys := false, apart := false, laid := [("unicode/utf8.acceptRanges", laid_unicode_utf8_acceptRanges), ("unicode/utf8.first", laid_unicode_utf8_first)], narrowed := true }
def LayoutChecksUptoSaid : Prop := layoutChecksUptoRow.holds Tryd.pinned (OpenSpec.upto layoutChecksSpec)

/-- 'stillagelaw06.LayoutBack', WHERE WHAT IT READS IS OF BULK AT MOST 1048576: true; the input reads as it did. -/
def layoutBackUptoRow : OpenClaim := { program := "ytankmcjfglbbiaadoor", sum := "7516ec4f8a3ebe74682b9eb2a1ea5ddc46067d1e617c322819b9b7aa88d2a846", func := "stillage/stillagelaw06.LayoutBack", spec := "layoutBack", inPlace := ["internal/bytealg.CountString", "internal/bytealg.IndexByteString", "internal/bytealg.IndexString", "internal/abi.NoEscape"], unfollowed := true, recurses := true, named := ["unicode/utf8.first", "unicode/utf8.acceptRanges", "internal/bytealg.MaxLen"], plainKeys := false, apart := false, laid := [("unicode/utf8.acceptRanges", laid_unicode_utf8_acceptRanges), ("unicode/utf8.first", laid_unicode_utf8_first)], narrowed := true }
def LayoutBackUptoSaid : Prop := layoutBackUptoRow.holds Tryd.pinned (OpenSpec.upto layoutBackSpec)

/-- 'stillagelaw06.LayoutLines', WHERE WHAT IT READS IS OF BULK AT MOST 1048576: true; the input reads as it did. -/
def layoutLinesUptoRow : OpenClaim := { program := "ytankmcjfglbbiaadoor", sum := "7516ec4f8a3ebe74682b9eb2a1ea5ddc46067d1e617c322819b9b7aa88d2a846", func := "stillage/stillagelaw06.LayoutLines", spec := "layoutLines", inPlace := ["internal/bytealg.CountString", "internal/bytealg.IndexByteString", "internal/bytealg.IndexString", "internal/abi.NoEscape"], unfollowed := true, recurses := true, named := ["unicode/utf8.first", "unicode/utf8.acceptRanges", "internal/bytealg.MaxLen"], plainKeys := false, apart := false, laid := [("unicode/utf8.acceptRanges", laid_unicode_utf8_acceptRanges), ("unicode/utf8.first", laid_unicode_utf8_first)], narrowed := true }
def LayoutLinesUptoSaid : Prop := layoutLinesUptoRow.holds Tryd.pinned (OpenSpec.upto layoutLinesSpec)

end Rows
end Go.Proofs.YtankmcjfglbbiaaDoor
