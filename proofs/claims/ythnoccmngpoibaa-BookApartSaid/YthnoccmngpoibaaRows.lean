/-
  No cell of these rows narrows 'for every input' (looked for: loops, veiled, ifaces, maps, wideKeys, modest, calm, conditions, laid).
  DERIVED. THE GIVEN ROWS OF THIS SEAT. 5 by the template 'for every input the law returns true; each argument reads behind the call as it read before'; 0 by the template 'total and deterministic' (their statements: YthnoccmngpoibaaTotals.lean).
  GIVEN WITH THE SEED: the statements are not yours to turn. If you find one false, say at which input.
  Laid BY PROGRAM, IN A SANDBOX (cutbox-rows.mjs): the forced cells as the released guide's own fill.sh prints them over the translation 4838062c0967e183… (all of the seat's roots in one cut). By AI agents, Wed Nov 11 2026. No macro, syntax, notation, axiom, sorry.
-/
import Derived.Test.YthnoccmngpoibaaChecked
import GoSem.Claim
import GoSem.ClaimJoined
import GoSem.ClaimMapViews
import Derived.JoinedTies
import Derived.KernelRfl
namespace Go.Proofs.Ythnoccmngpoibaa
/- THE CELL 'sum', in the pinned program and in every row, IS THE sha256 OF THE DUMP (.gsa) THAT YthnoccmngpoibaaProg.lean LOADS. Nothing in Lean hashes anything: it is a label: what it is worth is what the hold of that sum in a sandbox is worth. -/
noncomputable def Try.pinned : Pinned := { name := "ythnoccmngpoibaa", sum := "4838062c0967e183a7cfbdfc041c93c937b9b78d440ead0f9ead90854870fefe", checked := Try.checked }
namespace Rows
def none {H : Type} : Left H := { results := [], args := [] }

/-- 'stillagelaw16.BookPlays': WHATEVER THE INPUT: true; the input reads as it did. -/
def bookPlaysSpec : ChangeSpec := { name := "bookPlays", fn := fun _ => fun
  | [d] => { results := [.lit (.bool true)], args := [d] }
  | _ => none }
def bookPlaysRow : OpenClaim := { program := "ythnoccmngpoibaa", sum := "4838062c0967e183a7cfbdfc041c93c937b9b78d440ead0f9ead90854870fefe", func := "stillage/stillagelaw16.BookPlays", spec := "bookPlays", unfollowed := true, recurses := true, apart := false }
def BookPlaysSaid : Prop := bookPlaysRow.holds Try.pinned (OpenSpec.ofChange bookPlaysSpec)

/-- ITS FALSE NEIGHBOUR: 'it returns false'. Refute it at one input. -/
def bookPlaysWrong : ChangeSpec := { name := "bookPlays", fn := fun _ => fun
  | [d] => { results := [.lit (.bool false)], args := [d] }
  | _ => none }
def BookPlaysWrongFalsely : Prop := bookPlaysRow.holds Try.pinned (OpenSpec.ofChange bookPlaysWrong)

/-- 'stillagelaw16.BookOrder': WHATEVER THE INPUT: true; the input reads as it did. -/
def bookOrderSpec : ChangeSpec := { name := "bookOrder", fn := fun _ => fun
  | [d] => { results := [.lit (.bool true)], args := [d] }
  | _ => none }
def bookOrderRow : OpenClaim := { program := "ythnoccmngpoibaa", sum := "4838062c0967e183a7cfbdfc041c93c937b9b78d440ead0f9ead90854870fefe", func := "stillage/stillagelaw16.BookOrder", spec := "bookOrder", unfollowed := true, recurses := true, apart := false }
def BookOrderSaid : Prop := bookOrderRow.holds Try.pinned (OpenSpec.ofChange bookOrderSpec)

/-- ITS FALSE NEIGHBOUR: 'it returns false'. Refute it at one input. -/
def bookOrderWrong : ChangeSpec := { name := "bookOrder", fn := fun _ => fun
  | [d] => { results := [.lit (.bool false)], args := [d] }
  | _ => none }
def BookOrderWrongFalsely : Prop := bookOrderRow.holds Try.pinned (OpenSpec.ofChange bookOrderWrong)

/-- 'stillagelaw16.BookTwice': WHATEVER THE INPUT: true; the input reads as it did. -/
def bookTwiceSpec : ChangeSpec := { name := "bookTwice", fn := fun _ => fun
  | [d] => { results := [.lit (.bool true)], args := [d] }
  | _ => none }
def bookTwiceRow : OpenClaim := { program := "ythnoccmngpoibaa", sum := "4838062c0967e183a7cfbdfc041c93c937b9b78d440ead0f9ead90854870fefe", func := "stillage/stillagelaw16.BookTwice", spec := "bookTwice", unfollowed := true, recurses := true, apart := false }
def BookTwiceSaid : Prop := bookTwiceRow.holds Try.pinned (OpenSpec.ofChange bookTwiceSpec)

/-- ITS FALSE NEIGHBOUR: 'it returns false'. Refute it at one input. -/
def bookTwiceWrong : ChangeSpec := { name := "bookTwice", fn := fun _ => fun
  | [d] => { results := [.lit (.bool false)], args := [d] }
  | _ => none }
def BookTwiceWrongFalsely : Prop := bookTwiceRow.holds Try.pinned (OpenSpec.ofChange bookTwiceWrong)

/-- 'stillagelaw16.BookTotes': WHATEVER THE INPUT: true; the input reads as it did. -/
def bookTotesSpec : ChangeSpec := { name := "bookTotes", fn := fun _ => fun
  | [d1, d2] => { results := [.lit (.bool true)], args := [d1, d2] }
  | _ => none }
def bookTotesRow : OpenClaim := { program := "ythnoccmngpoibaa", sum := "4838062c0967e183a7cfbdfc041c93c937b9b78d440ead0f9ead90854870fefe", func := "stillage/stillagelaw16.BookTotes", spec := "bookTotes", unfollowed := true, recurses := true, apart := false }
def BookTotesSaid : Prop := bookTotesRow.holds Try.pinned (OpenSpec.ofChange bookTotesSpec)

/-- ITS FALSE NEIGHBOUR: 'it returns false'. Refute it at one input. -/
def bookTotesWrong : ChangeSpec := { name := "bookTotes", fn := fun _ => fun
  | [d1, d2] => { results := [.lit (.bool false)], args := [d1, d2] }
  | _ => none }
def BookTotesWrongFalsely : Prop := bookTotesRow.holds Try.pinned (OpenSpec.ofChange bookTotesWrong)

/-- 'stillagelaw16.BookApart': WHATEVER THE INPUT: true; the input reads as it did. -/
def bookApartSpec : ChangeSpec := { name := "bookApart", fn := fun _ => fun
  | [d1, d2] => { results := [.lit (.bool true)], args := [d1, d2] }
  | _ => none }
def bookApartRow : OpenClaim := { program := "ythnoccmngpoibaa", sum := "4838062c0967e183a7cfbdfc041c93c937b9b78d440ead0f9ead90854870fefe", func := "stillage/stillagelaw16.BookApart", spec := "bookApart", unfollowed := true, recurses := true, apart := false }
def BookApartSaid : Prop := bookApartRow.holds Try.pinned (OpenSpec.ofChange bookApartSpec)

/-- ITS FALSE NEIGHBOUR: 'it returns false'. Refute it at one input. -/
def bookApartWrong : ChangeSpec := { name := "bookApart", fn := fun _ => fun
  | [d1, d2] => { results := [.lit (.bool false)], args := [d1, d2] }
  | _ => none }
def BookApartWrongFalsely : Prop := bookApartRow.holds Try.pinned (OpenSpec.ofChange bookApartWrong)

/- THE SECOND FORM. 'bulk': how many values and letters a reading holds, each counted each time it is reached (what is shared counts as often as it is met; a slice's spare places count too). A statement '..UptoSaid' is the law's where the arguments, and the package variables that the reading takes, are together of bulk at most 1048576: NARROWER than '..Said'. Prove '..Said' where nothing that the law and all that it calls make is longer than what came in: it says more and counts as full. Else prove '..UptoSaid'. A law counts once. -/
mutual
def uptoBulk {H : Type} : DataW H → Nat
  | .lit (.string bytes) => bytes.length + 1
  | .lit _ => 1
  | .nil => 1
  | .ptr d => uptoBulk d + 1
  | .slice elems spare => uptoBulkAll elems + uptoBulkAll spare + 1
  | .agg parts => uptoBulkAll parts + 1
  | .iface _ d => uptoBulk d + 1
  | .map entries => uptoBulkEntries entries + 1
  | .held _ => 1
def uptoBulkAll {H : Type} : List (DataW H) → Nat
  | [] => 0
  | d :: r => uptoBulk d + uptoBulkAll r
def uptoBulkEntries {H : Type} : List (Lit × DataW H) → Nat
  | [] => 0
  | x :: r => uptoBulkEntry x + uptoBulkEntries r
def uptoBulkEntry {H : Type} : Lit × DataW H → Nat
  | (.string bytes, d) => bytes.length + uptoBulk d + 1
  | (_, d) => uptoBulk d + 1
 end
def uptoSmall : (H : Type) → List (DataW H) → Bool := fun _ ds => decide (uptoBulkAll ds ≤ 1048576)
def OpenSpec.upto (s : _root_.Go.ChangeSpec) : _root_.Go.OpenSpec := { _root_.Go.OpenSpec.ofChange s with cond := some uptoSmall }

/-- 'stillagelaw16.BookPlays', WHERE WHAT IT READS IS OF BULK AT MOST 1048576: true; the input reads as it did. -/
def bookPlaysUptoRow : OpenClaim := { program := "ythnoccmngpoibaa", sum := "4838062c0967e183a7cfbdfc041c93c937b9b78d440ead0f9ead90854870fefe", func := "stillage/stillagelaw16.BookPlays", spec := "bookPlays", unfollowed := true, recurses := true, apart := false, narrowed := true }
def BookPlaysUptoSaid : Prop := bookPlaysUptoRow.holds Try.pinned (OpenSpec.upto bookPlaysSpec)

/-- 'stillagelaw16.BookOrder', WHERE WHAT IT READS IS OF BULK AT MOST 1048576: true; the input reads as it did. -/
def bookOrderUptoRow : OpenClaim := { program := "ythnoccmngpoibaa", sum := "4838062c0967e183a7cfbdfc041c93c937b9b78d440ead0f9ead90854870fefe", func := "stillage/stillagelaw16.BookOrder", spec := "bookOrder", unfollowed := true, recurses := true, apart := false, narrowed := true }
def BookOrderUptoSaid : Prop := bookOrderUptoRow.holds Try.pinned (OpenSpec.upto bookOrderSpec)

/-- 'stillagelaw16.BookTwice', WHERE WHAT IT READS IS OF BULK AT MOST 1048576: true; the input reads as it did. -/
def bookTwiceUptoRow : OpenClaim := { program := "ythnoccmngpoibaa", sum := "4838062c0967e183a7cfbdfc041c93c937b9b78d440ead0f9ead90854870fefe", func := "stillage/stillagelaw16.BookTwice", spec := "bookTwice", unfollowed := true, recurses := true, apart := false, narrowed := true }
def BookTwiceUptoSaid : Prop := bookTwiceUptoRow.holds Try.pinned (OpenSpec.upto bookTwiceSpec)

/-- 'stillagelaw16.BookTotes', WHERE WHAT IT READS IS OF BULK AT MOST 1048576: true; the input reads as it did. -/
def bookTotesUptoRow : OpenClaim := { program := "ythnoccmngpoibaa", sum := "4838062c0967e183a7cfbdfc041c93c937b9b78d440ead0f9ead90854870fefe", func := "stillage/stillagelaw16.BookTotes", spec := "bookTotes", unfollowed := true, recurses := true, apart := false, narrowed := true }
def BookTotesUptoSaid : Prop := bookTotesUptoRow.holds Try.pinned (OpenSpec.upto bookTotesSpec)

/-- 'stillagelaw16.BookApart', WHERE WHAT IT READS IS OF BULK AT MOST 1048576: true; the input reads as it did. -/
def bookApartUptoRow : OpenClaim := { program := "ythnoccmngpoibaa", sum := "4838062c0967e183a7cfbdfc041c93c937b9b78d440ead0f9ead90854870fefe", func := "stillage/stillagelaw16.BookApart", spec := "bookApart", unfollowed := true, recurses := true, apart := false, narrowed := true }
def BookApartUptoSaid : Prop := bookApartUptoRow.holds Try.pinned (OpenSpec.upto bookApartSpec)

end Rows
end Go.Proofs.Ythnoccmngpoibaa
