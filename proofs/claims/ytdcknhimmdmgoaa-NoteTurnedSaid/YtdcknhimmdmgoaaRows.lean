/-
  No cell of these rows narrows 'for every input' (looked for: loops, veiled, ifaces, maps, wideKeys, modest, calm, conditions, laid).
  DERIVED. THE GIVEN ROWS OF THIS SEAT. 7 by the template 'for every input the law returns true; each argument reads behind the call as it read before'; 0 by the template 'total and deterministic' (their statements: YtdcknhimmdmgoaaTotals.lean).
  GIVEN WITH THE SEED: the statements are not yours to turn. If you find one false, say at which input.
  Laid BY PROGRAM, IN A SANDBOX (cutbox-rows.mjs): the forced cells as the released guide's own fill.sh prints them over the translation 5fda79542654c9f0… (all of the seat's roots in one cut). By AI agents, Wed Nov 11 2026. No macro, syntax, notation, axiom, sorry.
-/
import Derived.Test.YtdcknhimmdmgoaaChecked
import GoSem.Claim
import GoSem.ClaimJoined
import GoSem.ClaimMapViews
import Derived.JoinedTies
import Derived.KernelRfl
namespace Go.Proofs.Ytdcknhimmdmgoaa
/- THE CELL 'sum', in the pinned program and in every row, IS THE sha256 OF THE DUMP (.gsa) THAT YtdcknhimmdmgoaaProg.lean LOADS. Nothing in Lean hashes anything: it is a label: what it is worth is what the hold of that sum in a sandbox is worth. -/
noncomputable def Try.pinned : Pinned := { name := "ytdcknhimmdmgoaa", sum := "5fda79542654c9f0020139bf1e393562fc76098706a8d0953e1cff1c98240ca8", checked := Try.checked }
namespace Rows
def none {H : Type} : Left H := { results := [], args := [] }

/-- 'stillagelaw18.NoteSizes': WHATEVER THE INPUT: true; the input reads as it did. -/
def noteSizesSpec : ChangeSpec := { name := "noteSizes", fn := fun _ => fun
  | [d] => { results := [.lit (.bool true)], args := [d] }
  | _ => none }
def noteSizesRow : OpenClaim := { program := "ytdcknhimmdmgoaa", sum := "5fda79542654c9f0020139bf1e393562fc76098706a8d0953e1cff1c98240ca8", func := "stillage/stillagelaw18.NoteSizes", spec := "noteSizes", apart := false }
def NoteSizesSaid : Prop := noteSizesRow.holds Try.pinned (OpenSpec.ofChange noteSizesSpec)

/-- ITS FALSE NEIGHBOUR: 'it returns false'. Refute it at one input. -/
def noteSizesWrong : ChangeSpec := { name := "noteSizes", fn := fun _ => fun
  | [d] => { results := [.lit (.bool false)], args := [d] }
  | _ => none }
def NoteSizesWrongFalsely : Prop := noteSizesRow.holds Try.pinned (OpenSpec.ofChange noteSizesWrong)

/-- 'stillagelaw18.NoteMany': WHATEVER THE INPUT: true; the input reads as it did. -/
def noteManySpec : ChangeSpec := { name := "noteMany", fn := fun _ => fun
  | [d] => { results := [.lit (.bool true)], args := [d] }
  | _ => none }
def noteManyRow : OpenClaim := { program := "ytdcknhimmdmgoaa", sum := "5fda79542654c9f0020139bf1e393562fc76098706a8d0953e1cff1c98240ca8", func := "stillage/stillagelaw18.NoteMany", spec := "noteMany", apart := false }
def NoteManySaid : Prop := noteManyRow.holds Try.pinned (OpenSpec.ofChange noteManySpec)

/-- ITS FALSE NEIGHBOUR: 'it returns false'. Refute it at one input. -/
def noteManyWrong : ChangeSpec := { name := "noteMany", fn := fun _ => fun
  | [d] => { results := [.lit (.bool false)], args := [d] }
  | _ => none }
def NoteManyWrongFalsely : Prop := noteManyRow.holds Try.pinned (OpenSpec.ofChange noteManyWrong)

/-- 'stillagelaw18.NoteWrites': WHATEVER THE INPUT: true; the input reads as it did. -/
def noteWritesSpec : ChangeSpec := { name := "noteWrites", fn := fun _ => fun
  | [d1, d2] => { results := [.lit (.bool true)], args := [d1, d2] }
  | _ => none }
def noteWritesRow : OpenClaim := { program := "ytdcknhimmdmgoaa", sum := "5fda79542654c9f0020139bf1e393562fc76098706a8d0953e1cff1c98240ca8", func := "stillage/stillagelaw18.NoteWrites", spec := "noteWrites", apart := false }
def NoteWritesSaid : Prop := noteWritesRow.holds Try.pinned (OpenSpec.ofChange noteWritesSpec)

/-- ITS FALSE NEIGHBOUR: 'it returns false'. Refute it at one input. -/
def noteWritesWrong : ChangeSpec := { name := "noteWrites", fn := fun _ => fun
  | [d1, d2] => { results := [.lit (.bool false)], args := [d1, d2] }
  | _ => none }
def NoteWritesWrongFalsely : Prop := noteWritesRow.holds Try.pinned (OpenSpec.ofChange noteWritesWrong)

/-- 'stillagelaw18.NoteTurned': WHATEVER THE INPUT: true; the input reads as it did. -/
def noteTurnedSpec : ChangeSpec := { name := "noteTurned", fn := fun _ => fun
  | [d1, d2] => { results := [.lit (.bool true)], args := [d1, d2] }
  | _ => none }
def noteTurnedRow : OpenClaim := { program := "ytdcknhimmdmgoaa", sum := "5fda79542654c9f0020139bf1e393562fc76098706a8d0953e1cff1c98240ca8", func := "stillage/stillagelaw18.NoteTurned", spec := "noteTurned", apart := false }
def NoteTurnedSaid : Prop := noteTurnedRow.holds Try.pinned (OpenSpec.ofChange noteTurnedSpec)

/-- ITS FALSE NEIGHBOUR: 'it returns false'. Refute it at one input. -/
def noteTurnedWrong : ChangeSpec := { name := "noteTurned", fn := fun _ => fun
  | [d1, d2] => { results := [.lit (.bool false)], args := [d1, d2] }
  | _ => none }
def NoteTurnedWrongFalsely : Prop := noteTurnedRow.holds Try.pinned (OpenSpec.ofChange noteTurnedWrong)

/-- 'stillagelaw18.NoteReads': WHATEVER THE INPUT: true; the input reads as it did. -/
def noteReadsSpec : ChangeSpec := { name := "noteReads", fn := fun _ => fun
  | [d] => { results := [.lit (.bool true)], args := [d] }
  | _ => none }
def noteReadsRow : OpenClaim := { program := "ytdcknhimmdmgoaa", sum := "5fda79542654c9f0020139bf1e393562fc76098706a8d0953e1cff1c98240ca8", func := "stillage/stillagelaw18.NoteReads", spec := "noteReads", apart := false }
def NoteReadsSaid : Prop := noteReadsRow.holds Try.pinned (OpenSpec.ofChange noteReadsSpec)

/-- ITS FALSE NEIGHBOUR: 'it returns false'. Refute it at one input. -/
def noteReadsWrong : ChangeSpec := { name := "noteReads", fn := fun _ => fun
  | [d] => { results := [.lit (.bool false)], args := [d] }
  | _ => none }
def NoteReadsWrongFalsely : Prop := noteReadsRow.holds Try.pinned (OpenSpec.ofChange noteReadsWrong)

/-- 'stillagelaw18.NoteCut': WHATEVER THE INPUT: true; the input reads as it did. -/
def noteCutSpec : ChangeSpec := { name := "noteCut", fn := fun _ => fun
  | [d1, d2] => { results := [.lit (.bool true)], args := [d1, d2] }
  | _ => none }
def noteCutRow : OpenClaim := { program := "ytdcknhimmdmgoaa", sum := "5fda79542654c9f0020139bf1e393562fc76098706a8d0953e1cff1c98240ca8", func := "stillage/stillagelaw18.NoteCut", spec := "noteCut", apart := false }
def NoteCutSaid : Prop := noteCutRow.holds Try.pinned (OpenSpec.ofChange noteCutSpec)

/-- ITS FALSE NEIGHBOUR: 'it returns false'. Refute it at one input. -/
def noteCutWrong : ChangeSpec := { name := "noteCut", fn := fun _ => fun
  | [d1, d2] => { results := [.lit (.bool false)], args := [d1, d2] }
  | _ => none }
def NoteCutWrongFalsely : Prop := noteCutRow.holds Try.pinned (OpenSpec.ofChange noteCutWrong)

/-- 'stillagelaw18.NoteBack': WHATEVER THE INPUT: true; the input reads as it did. -/
def noteBackSpec : ChangeSpec := { name := "noteBack", fn := fun _ => fun
  | [d] => { results := [.lit (.bool true)], args := [d] }
  | _ => none }
def noteBackRow : OpenClaim := { program := "ytdcknhimmdmgoaa", sum := "5fda79542654c9f0020139bf1e393562fc76098706a8d0953e1cff1c98240ca8", func := "stillage/stillagelaw18.NoteBack", spec := "noteBack", apart := false }
def NoteBackSaid : Prop := noteBackRow.holds Try.pinned (OpenSpec.ofChange noteBackSpec)

/-- ITS FALSE NEIGHBOUR: 'it returns false'. Refute it at one input. -/
def noteBackWrong : ChangeSpec := { name := "noteBack", fn := fun _ => fun
  | [d] => { results := [.lit (.bool false)], args := [d] }
  | _ => none }
def NoteBackWrongFalsely : Prop := noteBackRow.holds Try.pinned (OpenSpec.ofChange noteBackWrong)

/- THE SECOND FORM. 'bulk': how many values and letters a reading holds, each counted each time it is reached (what is shared counts as often as it is met; a slice's spare places count too). A statement '..UptoSaid' is the law's where the arguments, and the package variables that the reading takes, are together of bulk at most 1048576: NARROWER than '..Said'. Prove '..Said' where nothing that the law and all that it calls make is longer than what came in: it says more and counts as full. Else prove '..UptoSaid'. A law counts once. -/
mutual
def uptoBulk {H : Type} : DataW H → Nat
  | .lit (.string bytes) => bytes.length + 1
  | .lit _ => 1
  | .nil => 1
  | .ptr d => uptoBulk d + 1
  | .slice elems spare => uptoBulkAll elems + uptoBulkAll spare + 1
  | .agg parts => uptoBulkAll parts + 1
  | .iface _ d => uptoBulk d + 1
  | .map entries => uptoBulkEntries entries + 1
  | .held _ => 1
def uptoBulkAll {H : Type} : List (DataW H) → Nat
  | [] => 0
  | d :: r => uptoBulk d + uptoBulkAll r
def uptoBulkEntries {H : Type} : List (Lit × DataW H) → Nat
  | [] => 0
  | x :: r => uptoBulkEntry x + uptoBulkEntries r
def uptoBulkEntry {H : Type} : Lit × DataW H → Nat
  | (.string bytes, d) => bytes.length + uptoBulk d + 1
  | (_, d) => uptoBulk d + 1
 end
def uptoSmall : (H : Type) → List (DataW H) → Bool := fun _ ds => decide (uptoBulkAll ds ≤ 1048576)
def OpenSpec.upto (s : _root_.Go.ChangeSpec) : _root_.Go.OpenSpec := { _root_.Go.OpenSpec.ofChange s with cond := some uptoSmall }

/-- 'stillagelaw18.NoteSizes', WHERE WHAT IT READS IS OF BULK AT MOST 1048576: true; the input reads as it did. -/
def noteSizesUptoRow : OpenClaim := { program := "ytdcknhimmdmgoaa", sum := "5fda79542654c9f0020139bf1e393562fc76098706a8d0953e1cff1c98240ca8", func := "stillage/stillagelaw18.NoteSizes", spec := "noteSizes", apart := false, narrowed := true }
def NoteSizesUptoSaid : Prop := noteSizesUptoRow.holds Try.pinned (OpenSpec.upto noteSizesSpec)

/-- 'stillagelaw18.NoteMany', WHERE WHAT IT READS IS OF BULK AT MOST 1048576: true; the input reads as it did. -/
def noteManyUptoRow : OpenClaim := { program := "ytdcknhimmdmgoaa", sum := "5fda79542654c9f0020139bf1e393562fc76098706a8d0953e1cff1c98240ca8", func := "stillage/stillagelaw18.NoteMany", spec := "noteMany", apart := false, narrowed := true }
def NoteManyUptoSaid : Prop := noteManyUptoRow.holds Try.pinned (OpenSpec.upto noteManySpec)

/-- 'stillagelaw18.NoteWrites', WHERE WHAT IT READS IS OF BULK AT MOST 1048576: true; the input reads as it did. -/
def noteWritesUptoRow : OpenClaim := { program := "ytdcknhimmdmgoaa", sum := "5fda79542654c9f0020139bf1e393562fc76098706a8d0953e1cff1c98240ca8", func := "stillage/stillagelaw18.NoteWrites", spec := "noteWrites", apart := false, narrowed := true }
def NoteWritesUptoSaid : Prop := noteWritesUptoRow.holds Try.pinned (OpenSpec.upto noteWritesSpec)

/-- 'stillagelaw18.NoteTurned', WHERE WHAT IT READS IS OF BULK AT MOST 1048576: true; the input reads as it did. -/
def noteTurnedUptoRow : OpenClaim := { program := "ytdcknhimmdmgoaa", sum := "5fda79542654c9f0020139bf1e393562fc76098706a8d0953e1cff1c98240ca8", func := "stillage/stillagelaw18.NoteTurned", spec := "noteTurned", apart := false, narrowed := true }
def NoteTurnedUptoSaid : Prop := noteTurnedUptoRow.holds Try.pinned (OpenSpec.upto noteTurnedSpec)

/-- 'stillagelaw18.NoteReads', WHERE WHAT IT READS IS OF BULK AT MOST 1048576: true; the input reads as it did. -/
def noteReadsUptoRow : OpenClaim := { program := "ytdcknhimmdmgoaa", sum := "5fda79542654c9f0020139bf1e393562fc76098706a8d0953e1cff1c98240ca8", func := "stillage/stillagelaw18.NoteReads", spec := "noteReads", apart := false, narrowed := true }
def NoteReadsUptoSaid : Prop := noteReadsUptoRow.holds Try.pinned (OpenSpec.upto noteReadsSpec)

/-- 'stillagelaw18.NoteCut', WHERE WHAT IT READS IS OF BULK AT MOST 1048576: true; the input reads as it did. -/
def noteCutUptoRow : OpenClaim := { program := "ytdcknhimmdmgoaa", sum := "5fda79542654c9f0020139bf1e393562fc76098706a8d0953e1cff1c98240ca8", func := "stillage/stillagelaw18.NoteCut", spec := "noteCut", apart := false, narrowed := true }
def NoteCutUptoSaid : Prop := noteCutUptoRow.holds Try.pinned (OpenSpec.upto noteCutSpec)

/-- 'stillagelaw18.NoteBack', WHERE WHAT IT READS IS OF BULK AT MOST 1048576: true; the input reads as it did. -/
def noteBackUptoRow : OpenClaim := { program := "ytdcknhimmdmgoaa", sum := "5fda79542654c9f0020139bf1e393562fc76098706a8d0953e1cff1c98240ca8", func := "stillage/stillagelaw18.NoteBack", spec := "noteBack", apart := false, narrowed := true }
def NoteBackUptoSaid : Prop := noteBackUptoRow.holds Try.pinned (OpenSpec.upto noteBackSpec)

end Rows
end Go.Proofs.Ytdcknhimmdmgoaa
