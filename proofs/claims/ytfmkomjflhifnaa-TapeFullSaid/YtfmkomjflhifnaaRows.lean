/-
  No cell of these rows narrows 'for every input' (looked for: loops, veiled, ifaces, maps, wideKeys, modest, calm, conditions, laid).
  DERIVED. THE GIVEN ROWS OF THIS SEAT. 6 by the template 'for every input the law returns true; each argument reads behind the call as it read before'; 0 by the template 'total and deterministic' (their statements: YtfmkomjflhifnaaTotals.lean).
  GIVEN WITH THE SEED: the statements are not yours to turn. If you find one false, say at which input.
  Laid BY PROGRAM, IN A SANDBOX (cutbox-rows.mjs): the forced cells as the released guide's own fill.sh prints them over the translation b58734f95c21aea9… (all of the seat's roots in one cut). By AI agents, Wed Nov 11 2026. No macro, syntax, notation, axiom, sorry.
-/
import Derived.Test.YtfmkomjflhifnaaChecked
import GoSem.Claim
import GoSem.ClaimJoined
import GoSem.ClaimMapViews
import Derived.JoinedTies
import Derived.KernelRfl
namespace Go.Proofs.Ytfmkomjflhifnaa
/- THE CELL 'sum', in the pinned program and in every row, IS THE sha256 OF THE DUMP (.gsa) THAT YtfmkomjflhifnaaProg.lean LOADS. Nothing in Lean hashes anything: it is a label: what it is worth is what the hold of that sum in a sandbox is worth. -/
noncomputable def Try.pinned : Pinned := { name := "ytfmkomjflhifnaa", sum := "b58734f95c21aea937dbdfbebef28764c54535ce9cf5c1a3dc906d5b503d20ee", checked := Try.checked }
namespace Rows
def none {H : Type} : Left H := { results := [], args := [] }

/-- 'stillagelaw19.TapeTorn': WHATEVER THE INPUT: true; the input reads as it did. -/
def tapeTornSpec : ChangeSpec := { name := "tapeTorn", fn := fun _ => fun
  | [d1, d2] => { results := [.lit (.bool true)], args := [d1, d2] }
  | _ => none }
def tapeTornRow : OpenClaim := { program := "ytfmkomjflhifnaa", sum := "b58734f95c21aea937dbdfbebef28764c54535ce9cf5c1a3dc906d5b503d20ee", func := "stillage/stillagelaw19.TapeTorn", spec := "tapeTorn", unfollowed := true, recurses := true, apart := false }
def TapeTornSaid : Prop := tapeTornRow.holds Try.pinned (OpenSpec.ofChange tapeTornSpec)

/-- ITS FALSE NEIGHBOUR: 'it returns false'. Refute it at one input. -/
def tapeTornWrong : ChangeSpec := { name := "tapeTorn", fn := fun _ => fun
  | [d1, d2] => { results := [.lit (.bool false)], args := [d1, d2] }
  | _ => none }
def TapeTornWrongFalsely : Prop := tapeTornRow.holds Try.pinned (OpenSpec.ofChange tapeTornWrong)

/-- 'stillagelaw19.TapeBudget': WHATEVER THE INPUT: true; the input reads as it did. -/
def tapeBudgetSpec : ChangeSpec := { name := "tapeBudget", fn := fun _ => fun
  | [d1, d2] => { results := [.lit (.bool true)], args := [d1, d2] }
  | _ => none }
def tapeBudgetRow : OpenClaim := { program := "ytfmkomjflhifnaa", sum := "b58734f95c21aea937dbdfbebef28764c54535ce9cf5c1a3dc906d5b503d20ee", func := "stillage/stillagelaw19.TapeBudget", spec := "tapeBudget", unfollowed := true, recurses := true, apart := false }
def TapeBudgetSaid : Prop := tapeBudgetRow.holds Try.pinned (OpenSpec.ofChange tapeBudgetSpec)

/-- ITS FALSE NEIGHBOUR: 'it returns false'. Refute it at one input. -/
def tapeBudgetWrong : ChangeSpec := { name := "tapeBudget", fn := fun _ => fun
  | [d1, d2] => { results := [.lit (.bool false)], args := [d1, d2] }
  | _ => none }
def TapeBudgetWrongFalsely : Prop := tapeBudgetRow.holds Try.pinned (OpenSpec.ofChange tapeBudgetWrong)

/-- 'stillagelaw19.TapePlays': WHATEVER THE INPUT: true; the input reads as it did. -/
def tapePlaysSpec : ChangeSpec := { name := "tapePlays", fn := fun _ => fun
  | [d] => { results := [.lit (.bool true)], args := [d] }
  | _ => none }
def tapePlaysRow : OpenClaim := { program := "ytfmkomjflhifnaa", sum := "b58734f95c21aea937dbdfbebef28764c54535ce9cf5c1a3dc906d5b503d20ee", func := "stillage/stillagelaw19.TapePlays", spec := "tapePlays", unfollowed := true, recurses := true, apart := false }
def TapePlaysSaid : Prop := tapePlaysRow.holds Try.pinned (OpenSpec.ofChange tapePlaysSpec)

/-- ITS FALSE NEIGHBOUR: 'it returns false'. Refute it at one input. -/
def tapePlaysWrong : ChangeSpec := { name := "tapePlays", fn := fun _ => fun
  | [d] => { results := [.lit (.bool false)], args := [d] }
  | _ => none }
def TapePlaysWrongFalsely : Prop := tapePlaysRow.holds Try.pinned (OpenSpec.ofChange tapePlaysWrong)

/-- 'stillagelaw19.TapeTurns': WHATEVER THE INPUT: true; the input reads as it did. -/
def tapeTurnsSpec : ChangeSpec := { name := "tapeTurns", fn := fun _ => fun
  | [d1, d2, d3] => { results := [.lit (.bool true)], args := [d1, d2, d3] }
  | _ => none }
def tapeTurnsRow : OpenClaim := { program := "ytfmkomjflhifnaa", sum := "b58734f95c21aea937dbdfbebef28764c54535ce9cf5c1a3dc906d5b503d20ee", func := "stillage/stillagelaw19.TapeTurns", spec := "tapeTurns", unfollowed := true, recurses := true, apart := false }
def TapeTurnsSaid : Prop := tapeTurnsRow.holds Try.pinned (OpenSpec.ofChange tapeTurnsSpec)

/-- ITS FALSE NEIGHBOUR: 'it returns false'. Refute it at one input. -/
def tapeTurnsWrong : ChangeSpec := { name := "tapeTurns", fn := fun _ => fun
  | [d1, d2, d3] => { results := [.lit (.bool false)], args := [d1, d2, d3] }
  | _ => none }
def TapeTurnsWrongFalsely : Prop := tapeTurnsRow.holds Try.pinned (OpenSpec.ofChange tapeTurnsWrong)

/-- 'stillagelaw19.TapeFull': WHATEVER THE INPUT: true; the input reads as it did. -/
def tapeFullSpec : ChangeSpec := { name := "tapeFull", fn := fun _ => fun
  | [d] => { results := [.lit (.bool true)], args := [d] }
  | _ => none }
def tapeFullRow : OpenClaim := { program := "ytfmkomjflhifnaa", sum := "b58734f95c21aea937dbdfbebef28764c54535ce9cf5c1a3dc906d5b503d20ee", func := "stillage/stillagelaw19.TapeFull", spec := "tapeFull", unfollowed := true, recurses := true, apart := false }
def TapeFullSaid : Prop := tapeFullRow.holds Try.pinned (OpenSpec.ofChange tapeFullSpec)

/-- ITS FALSE NEIGHBOUR: 'it returns false'. Refute it at one input. -/
def tapeFullWrong : ChangeSpec := { name := "tapeFull", fn := fun _ => fun
  | [d] => { results := [.lit (.bool false)], args := [d] }
  | _ => none }
def TapeFullWrongFalsely : Prop := tapeFullRow.holds Try.pinned (OpenSpec.ofChange tapeFullWrong)

/-- 'stillagelaw19.TapeApart': WHATEVER THE INPUT: true; the input reads as it did. -/
def tapeApartSpec : ChangeSpec := { name := "tapeApart", fn := fun _ => fun
  | [d1, d2] => { results := [.lit (.bool true)], args := [d1, d2] }
  | _ => none }
def tapeApartRow : OpenClaim := { program := "ytfmkomjflhifnaa", sum := "b58734f95c21aea937dbdfbebef28764c54535ce9cf5c1a3dc906d5b503d20ee", func := "stillage/stillagelaw19.TapeApart", spec := "tapeApart", unfollowed := true, recurses := true, apart := false }
def TapeApartSaid : Prop := tapeApartRow.holds Try.pinned (OpenSpec.ofChange tapeApartSpec)

/-- ITS FALSE NEIGHBOUR: 'it returns false'. Refute it at one input. -/
def tapeApartWrong : ChangeSpec := { name := "tapeApart", fn := fun _ => fun
  | [d1, d2] => { results := [.lit (.bool false)], args := [d1, d2] }
  | _ => none }
def TapeApartWrongFalsely : Prop := tapeApartRow.holds Try.pinned (OpenSpec.ofChange tapeApartWrong)

/- THE SECOND FORM. 'bulk': how many values and letters a reading holds, each counted each time it is reached (what is shared counts as often as it is met; a slice's spare places count too). A statement '..UptoSaid' is the law's where the arguments, and the package variables that the reading takes, are together of bulk at most 1048576: NARROWER than '..Said'. Prove '..Said' where nothing that the law and all that it calls make is longer than what came in: it says more and counts as full. Else prove '..UptoSaid'. A law counts once. -/
mutual
def uptoBulk {H : Type} : DataW H → Nat
  | .lit (.string bytes) => bytes.length + 1
  | .lit _ => 1
  | .nil => 1
  | .ptr d => uptoBulk d + 1
  | .slice elems spare => uptoBulkAll elems + uptoBulkAll spare + 1
  | .agg parts => uptoBulkAll parts + 1
  | .iface _ d => uptoBulk d + 1
  | .map entries => uptoBulkEntries entries + 1
  | .held _ => 1
def uptoBulkAll {H : Type} : List (DataW H) → Nat
  | [] => 0
  | d :: r => uptoBulk d + uptoBulkAll r
def uptoBulkEntries {H : Type} : List (Lit × DataW H) → Nat
  | [] => 0
  | x :: r => uptoBulkEntry x + uptoBulkEntries r
def uptoBulkEntry {H : Type} : Lit × DataW H → Nat
  | (.string bytes, d) => bytes.length + uptoBulk d + 1
  | (_, d) => uptoBulk d + 1
 end
def uptoSmall : (H : Type) → List (DataW H) → Bool := fun _ ds => decide (uptoBulkAll ds ≤ 1048576)
def OpenSpec.upto (s : _root_.Go.ChangeSpec) : _root_.Go.OpenSpec := { _root_.Go.OpenSpec.ofChange s with cond := some uptoSmall }

/-- 'stillagelaw19.TapeTorn', WHERE WHAT IT READS IS OF BULK AT MOST 1048576: true; the input reads as it did. -/
def tapeTornUptoRow : OpenClaim := { program := "ytfmkomjflhifnaa", sum := "b58734f95c21aea937dbdfbebef28764c54535ce9cf5c1a3dc906d5b503d20ee", func := "stillage/stillagelaw19.TapeTorn", spec := "tapeTorn", unfollowed := true, recurses := true, apart := false, narrowed := true }
def TapeTornUptoSaid : Prop := tapeTornUptoRow.holds Try.pinned (OpenSpec.upto tapeTornSpec)

/-- 'stillagelaw19.TapeBudget', WHERE WHAT IT READS IS OF BULK AT MOST 1048576: true; the input reads as it did. -/
def tapeBudgetUptoRow : OpenClaim := { program := "ytfmkomjflhifnaa", sum := "b58734f95c21aea937dbdfbebef28764c54535ce9cf5c1a3dc906d5b503d20ee", func := "stillage/stillagelaw19.TapeBudget", spec := "tapeBudget", unfollowed := true, recurses := true, apart := false, narrowed := true }
def TapeBudgetUptoSaid : Prop := tapeBudgetUptoRow.holds Try.pinned (OpenSpec.upto tapeBudgetSpec)

/-- 'stillagelaw19.TapePlays', WHERE WHAT IT READS IS OF BULK AT MOST 1048576: true; the input reads as it did. -/
def tapePlaysUptoRow : OpenClaim := { program := "ytfmkomjflhifnaa", sum := "b58734f95c21aea937dbdfbebef28764c54535ce9cf5c1a3dc906d5b503d20ee", func := "stillage/stillagelaw19.TapePlays", spec := "tapePlays", unfollowed := true, recurses := true, apart := false, narrowed := true }
def TapePlaysUptoSaid : Prop := tapePlaysUptoRow.holds Try.pinned (OpenSpec.upto tapePlaysSpec)

/-- 'stillagelaw19.TapeTurns', WHERE WHAT IT READS IS OF BULK AT MOST 1048576: true; the input reads as it did. -/
def tapeTurnsUptoRow : OpenClaim := { program := "ytfmkomjflhifnaa", sum := "b58734f95c21aea937dbdfbebef28764c54535ce9cf5c1a3dc906d5b503d20ee", func := "stillage/stillagelaw19.TapeTurns", spec := "tapeTurns", unfollowed := true, recurses := true, apart := false, narrowed := true }
def TapeTurnsUptoSaid : Prop := tapeTurnsUptoRow.holds Try.pinned (OpenSpec.upto tapeTurnsSpec)

/-- 'stillagelaw19.TapeFull', WHERE WHAT IT READS IS OF BULK AT MOST 1048576: true; the input reads as it did. -/
def tapeFullUptoRow : OpenClaim := { program := "ytfmkomjflhifnaa", sum := "b58734f95c21aea937dbdfbebef28764c54535ce9cf5c1a3dc906d5b503d20ee", func := "stillage/stillagelaw19.TapeFull", spec := "tapeFull", unfollowed := true, recurses := true, apart := false, narrowed := true }
def TapeFullUptoSaid : Prop := tapeFullUptoRow.holds Try.pinned (OpenSpec.upto tapeFullSpec)

/-- 'stillagelaw19.TapeApart', WHERE WHAT IT READS IS OF BULK AT MOST 1048576: true; the input reads as it did. -/
def tapeApartUptoRow : OpenClaim := { program := "ytfmkomjflhifnaa", sum := "b58734f95c21aea937dbdfbebef28764c54535ce9cf5c1a3dc906d5b503d20ee", func := "stillage/stillagelaw19.TapeApart", spec := "tapeApart", unfollowed := true, recurses := true, apart := false, narrowed := true }
def TapeApartUptoSaid : Prop := tapeApartUptoRow.holds Try.pinned (OpenSpec.upto tapeApartSpec)

end Rows
end Go.Proofs.Ytfmkomjflhifnaa
