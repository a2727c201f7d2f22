/-
  No cell of these rows narrows 'for every input' (looked for: loops, veiled, ifaces, maps, wideKeys, modest, calm, conditions, laid).
  DERIVED. THE GIVEN ROWS OF THIS SEAT. 6 by the template 'for every input the law returns true; each argument reads behind the call as it read before'; 0 by the template 'total and deterministic' (their statements: YtpgoemmjhnnmoaaTotals.lean).
  GIVEN WITH THE SEED: the statements are not yours to turn. If you find one false, say at which input.
  Laid BY PROGRAM, IN A SANDBOX (cutbox-rows.mjs): the forced cells as the released guide's own fill.sh prints them over the translation 10f69f43a55b3750… (all of the seat's roots in one cut). By AI agents, Wed Nov 11 2026. No macro, syntax, notation, axiom, sorry.
-/
import Derived.Test.YtpgoemmjhnnmoaaChecked
import GoSem.Claim
import GoSem.ClaimJoined
import GoSem.ClaimMapViews
import Derived.JoinedTies
import Derived.KernelRfl
namespace Go.Proofs.Ytpgoemmjhnnmoaa
/- THE CELL 'sum', in the pinned program and in every row, IS THE sha256 OF THE DUMP (.gsa) THAT YtpgoemmjhnnmoaaProg.lean LOADS. Nothing in Lean hashes anything: it is a label: what it is worth is what the hold of that sum in a sandbox is worth. -/
noncomputable def Try.pinned : Pinned := { name := "ytpgoemmjhnnmoaa", sum := "10f69f43a55b3750bddaed4b4cafeb13b780b2ccfe3a337e49be9849d5ad13e3", checked := Try.checked }
namespace Rows
def none {H : Type} : Left H := { results := [], args := [] }

/-- 'stillagelaw10.ClaimServed': WHATEVER THE INPUT: true; the input reads as it did. -/
def claimServedSpec : ChangeSpec := { name := "claimServed", fn := fun _ => fun
  | [d1, d2] => { results := [.lit (.bool true)], args := [d1, d2] }
  | _ => none }
def claimServedRow : OpenClaim := { program := "ytpgoemmjhnnmoaa", sum := "10f69f43a55b3750bddaed4b4cafeb13b780b2ccfe3a337e49be9849d5ad13e3", func := "stillage/stillagelaw10.ClaimServed", spec := "claimServed", unfollowed := true, recurses := true, apart := false }
def ClaimServedSaid : Prop := claimServedRow.holds Try.pinned (OpenSpec.ofChange claimServedSpec)

/-- ITS FALSE NEIGHBOUR: 'it returns false'. Refute it at one input. -/
def claimServedWrong : ChangeSpec := { name := "claimServed", fn := fun _ => fun
  | [d1, d2] => { results := [.lit (.bool false)], args := [d1, d2] }
  | _ => none }
def ClaimServedWrongFalsely : Prop := claimServedRow.holds Try.pinned (OpenSpec.ofChange claimServedWrong)

/-- 'stillagelaw10.ClaimApart': WHATEVER THE INPUT: true; the input reads as it did. -/
def claimApartSpec : ChangeSpec := { name := "claimApart", fn := fun _ => fun
  | [d] => { results := [.lit (.bool true)], args := [d] }
  | _ => none }
def claimApartRow : OpenClaim := { program := "ytpgoemmjhnnmoaa", sum := "10f69f43a55b3750bddaed4b4cafeb13b780b2ccfe3a337e49be9849d5ad13e3", func := "stillage/stillagelaw10.ClaimApart", spec := "claimApart", unfollowed := true, recurses := true, apart := false }
def ClaimApartSaid : Prop := claimApartRow.holds Try.pinned (OpenSpec.ofChange claimApartSpec)

/-- ITS FALSE NEIGHBOUR: 'it returns false'. Refute it at one input. -/
def claimApartWrong : ChangeSpec := { name := "claimApart", fn := fun _ => fun
  | [d] => { results := [.lit (.bool false)], args := [d] }
  | _ => none }
def ClaimApartWrongFalsely : Prop := claimApartRow.holds Try.pinned (OpenSpec.ofChange claimApartWrong)

/-- 'stillagelaw10.ClaimWhole': WHATEVER THE INPUT: true; the input reads as it did. -/
def claimWholeSpec : ChangeSpec := { name := "claimWhole", fn := fun _ => fun
  | [d1, d2] => { results := [.lit (.bool true)], args := [d1, d2] }
  | _ => none }
def claimWholeRow : OpenClaim := { program := "ytpgoemmjhnnmoaa", sum := "10f69f43a55b3750bddaed4b4cafeb13b780b2ccfe3a337e49be9849d5ad13e3", func := "stillage/stillagelaw10.ClaimWhole", spec := "claimWhole", unfollowed := true, recurses := true, apart := false }
def ClaimWholeSaid : Prop := claimWholeRow.holds Try.pinned (OpenSpec.ofChange claimWholeSpec)

/-- ITS FALSE NEIGHBOUR: 'it returns false'. Refute it at one input. -/
def claimWholeWrong : ChangeSpec := { name := "claimWhole", fn := fun _ => fun
  | [d1, d2] => { results := [.lit (.bool false)], args := [d1, d2] }
  | _ => none }
def ClaimWholeWrongFalsely : Prop := claimWholeRow.holds Try.pinned (OpenSpec.ofChange claimWholeWrong)

/-- 'stillagelaw10.ClaimRow': WHATEVER THE INPUT: true; the input reads as it did. -/
def claimRowSpec : ChangeSpec := { name := "claimRow", fn := fun _ => fun
  | [d1, d2] => { results := [.lit (.bool true)], args := [d1, d2] }
  | _ => none }
def claimRowRow : OpenClaim := { program := "ytpgoemmjhnnmoaa", sum := "10f69f43a55b3750bddaed4b4cafeb13b780b2ccfe3a337e49be9849d5ad13e3", func := "stillage/stillagelaw10.ClaimRow", spec := "claimRow", unfollowed := true, recurses := true, apart := false }
def ClaimRowSaid : Prop := claimRowRow.holds Try.pinned (OpenSpec.ofChange claimRowSpec)

/-- ITS FALSE NEIGHBOUR: 'it returns false'. Refute it at one input. -/
def claimRowWrong : ChangeSpec := { name := "claimRow", fn := fun _ => fun
  | [d1, d2] => { results := [.lit (.bool false)], args := [d1, d2] }
  | _ => none }
def ClaimRowWrongFalsely : Prop := claimRowRow.holds Try.pinned (OpenSpec.ofChange claimRowWrong)

/-- 'stillagelaw10.ClaimAgain': WHATEVER THE INPUT: true; the input reads as it did. -/
def claimAgainSpec : ChangeSpec := { name := "claimAgain", fn := fun _ => fun
  | [d1, d2, d3] => { results := [.lit (.bool true)], args := [d1, d2, d3] }
  | _ => none }
def claimAgainRow : OpenClaim := { program := "ytpgoemmjhnnmoaa", sum := "10f69f43a55b3750bddaed4b4cafeb13b780b2ccfe3a337e49be9849d5ad13e3", func := "stillage/stillagelaw10.ClaimAgain", spec := "claimAgain", unfollowed := true, recurses := true, apart := false }
def ClaimAgainSaid : Prop := claimAgainRow.holds Try.pinned (OpenSpec.ofChange claimAgainSpec)

/-- ITS FALSE NEIGHBOUR: 'it returns false'. Refute it at one input. -/
def claimAgainWrong : ChangeSpec := { name := "claimAgain", fn := fun _ => fun
  | [d1, d2, d3] => { results := [.lit (.bool false)], args := [d1, d2, d3] }
  | _ => none }
def ClaimAgainWrongFalsely : Prop := claimAgainRow.holds Try.pinned (OpenSpec.ofChange claimAgainWrong)

/-- 'stillagelaw10.ClaimPlays': WHATEVER THE INPUT: true; the input reads as it did. -/
def claimPlaysSpec : ChangeSpec := { name := "claimPlays", fn := fun _ => fun
  | [d1, d2] => { results := [.lit (.bool true)], args := [d1, d2] }
  | _ => none }
def claimPlaysRow : OpenClaim := { program := "ytpgoemmjhnnmoaa", sum := "10f69f43a55b3750bddaed4b4cafeb13b780b2ccfe3a337e49be9849d5ad13e3", func := "stillage/stillagelaw10.ClaimPlays", spec := "claimPlays", unfollowed := true, recurses := true, apart := false }
def ClaimPlaysSaid : Prop := claimPlaysRow.holds Try.pinned (OpenSpec.ofChange claimPlaysSpec)

/-- ITS FALSE NEIGHBOUR: 'it returns false'. Refute it at one input. -/
def claimPlaysWrong : ChangeSpec := { name := "claimPlays", fn := fun _ => fun
  | [d1, d2] => { results := [.lit (.bool false)], args := [d1, d2] }
  | _ => none }
def ClaimPlaysWrongFalsely : Prop := claimPlaysRow.holds Try.pinned (OpenSpec.ofChange claimPlaysWrong)

/- THE SECOND FORM. 'bulk': how many values and letters a reading holds, each counted each time it is reached (what is shared counts as often as it is met; a slice's spare places count too). A statement '..UptoSaid' is the law's where the arguments, and the package variables that the reading takes, are together of bulk at most 1048576: NARROWER than '..Said'. Prove '..Said' where nothing that the law and all that it calls make is longer than what came in: it says more and counts as full. Else prove '..UptoSaid'. A law counts once. -/
mutual
def uptoBulk {H : Type} : DataW H → Nat
  | .lit (.string bytes) => bytes.length + 1
  | .lit _ => 1
  | .nil => 1
  | .ptr d => uptoBulk d + 1
  | .slice elems spare => uptoBulkAll elems + uptoBulkAll spare + 1
  | .agg parts => uptoBulkAll parts + 1
  | .iface _ d => uptoBulk d + 1
  | .map entries => uptoBulkEntries entries + 1
  | .held _ => 1
def uptoBulkAll {H : Type} : List (DataW H) → Nat
  | [] => 0
  | d :: r => uptoBulk d + uptoBulkAll r
def uptoBulkEntries {H : Type} : List (Lit × DataW H) → Nat
  | [] => 0
  | x :: r => uptoBulkEntry x + uptoBulkEntries r
def uptoBulkEntry {H : Type} : Lit × DataW H → Nat
  | (.string bytes, d) => bytes.length + uptoBulk d + 1
  | (_, d) => uptoBulk d + 1
 end
def uptoSmall : (H : Type) → List (DataW H) → Bool := fun _ ds => decide (uptoBulkAll ds ≤ 1048576)
def OpenSpec.upto (s : _root_.Go.ChangeSpec) : _root_.Go.OpenSpec := { _root_.Go.OpenSpec.ofChange s with cond := some uptoSmall }

/-- 'stillagelaw10.ClaimServed', WHERE WHAT IT READS IS OF BULK AT MOST 1048576: true; the input reads as it did. -/
def claimServedUptoRow : OpenClaim := { program := "ytpgoemmjhnnmoaa", sum := "10f69f43a55b3750bddaed4b4cafeb13b780b2ccfe3a337e49be9849d5ad13e3", func := "stillage/stillagelaw10.ClaimServed", spec := "claimServed", unfollowed := true, recurses := true, apart := false, narrowed := true }
def ClaimServedUptoSaid : Prop := claimServedUptoRow.holds Try.pinned (OpenSpec.upto claimServedSpec)

/-- 'stillagelaw10.ClaimApart', WHERE WHAT IT READS IS OF BULK AT MOST 1048576: true; the input reads as it did. -/
def claimApartUptoRow : OpenClaim := { program := "ytpgoemmjhnnmoaa", sum := "10f69f43a55b3750bddaed4b4cafeb13b780b2ccfe3a337e49be9849d5ad13e3", func := "stillage/stillagelaw10.ClaimApart", spec := "claimApart", unfollowed := true, recurses := true, apart := false, narrowed := true }
def ClaimApartUptoSaid : Prop := claimApartUptoRow.holds Try.pinned (OpenSpec.upto claimApartSpec)

/-- 'stillagelaw10.ClaimWhole', WHERE WHAT IT READS IS OF BULK AT MOST 1048576: true; the input reads as it did. -/
def claimWholeUptoRow : OpenClaim := { program := "ytpgoemmjhnnmoaa", sum := "10f69f43a55b3750bddaed4b4cafeb13b780b2ccfe3a337e49be9849d5ad13e3", func := "stillage/stillagelaw10.ClaimWhole", spec := "claimWhole", unfollowed := true, recurses := true, apart := false, narrowed := true }
def ClaimWholeUptoSaid : Prop := claimWholeUptoRow.holds Try.pinned (OpenSpec.upto claimWholeSpec)

/-- 'stillagelaw10.ClaimRow', WHERE WHAT IT READS IS OF BULK AT MOST 1048576: true; the input reads as it did. -/
def claimRowUptoRow : OpenClaim := { program := "ytpgoemmjhnnmoaa", sum := "10f69f43a55b3750bddaed4b4cafeb13b780b2ccfe3a337e49be9849d5ad13e3", func := "stillage/stillagelaw10.ClaimRow", spec := "claimRow", unfollowed := true, recurses := true, apart := false, narrowed := true }
def ClaimRowUptoSaid : Prop := claimRowUptoRow.holds Try.pinned (OpenSpec.upto claimRowSpec)

/-- 'stillagelaw10.ClaimAgain', WHERE WHAT IT READS IS OF BULK AT MOST 1048576: true; the input reads as it did. -/
def claimAgainUptoRow : OpenClaim := { program := "ytpgoemmjhnnmoaa", sum := "10f69f43a55b3750bddaed4b4cafeb13b780b2ccfe3a337e49be9849d5ad13e3", func := "stillage/stillagelaw10.ClaimAgain", spec := "claimAgain", unfollowed := true, recurses := true, apart := false, narrowed := true }
def ClaimAgainUptoSaid : Prop := claimAgainUptoRow.holds Try.pinned (OpenSpec.upto claimAgainSpec)

/-- 'stillagelaw10.ClaimPlays', WHERE WHAT IT READS IS OF BULK AT MOST 1048576: true; the input reads as it did. -/
def claimPlaysUptoRow : OpenClaim := { program := "ytpgoemmjhnnmoaa", sum := "10f69f43a55b3750bddaed4b4cafeb13b780b2ccfe3a337e49be9849d5ad13e3", func := "stillage/stillagelaw10.ClaimPlays", spec := "claimPlays", unfollowed := true, recurses := true, apart := false, narrowed := true }
def ClaimPlaysUptoSaid : Prop := claimPlaysUptoRow.holds Try.pinned (OpenSpec.upto claimPlaysSpec)

end Rows
end Go.Proofs.Ytpgoemmjhnnmoaa
