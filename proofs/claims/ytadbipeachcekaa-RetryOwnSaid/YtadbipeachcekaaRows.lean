/-
  No cell of these rows narrows 'for every input' (looked for: loops, veiled, ifaces, maps, wideKeys, modest, calm, conditions, laid).
  DERIVED. THE GIVEN ROWS OF THIS SEAT. 6 by the template 'for every input the law returns true; each argument reads behind the call as it read before'; 0 by the template 'total and deterministic' (their statements: YtadbipeachcekaaTotals.lean).
  GIVEN WITH THE SEED: the statements are not yours to turn. If you find one false, say at which input.
  Laid BY PROGRAM, IN A SANDBOX (cutbox-rows.mjs): the forced cells as the released guide's own fill.sh prints them over the translation 8ac4f841f32210ee… (all of the seat's roots in one cut). By AI agents, Wed Nov 11 2026. No macro, syntax, notation, axiom, sorry.
-/
import Derived.Test.YtadbipeachcekaaChecked
import GoSem.Claim
import GoSem.ClaimJoined
import GoSem.ClaimMapViews
import Derived.JoinedTies
import Derived.KernelRfl
namespace Go.Proofs.Ytadbipeachcekaa
/- THE CELL 'sum', in the pinned program and in every row, IS THE sha256 OF THE DUMP (.gsa) THAT YtadbipeachcekaaProg.lean LOADS. Nothing in Lean hashes anything: it is a label: what it is worth is what the hold of that sum in a sandbox is worth. -/
noncomputable def Try.pinned : Pinned := { name := "ytadbipeachcekaa", sum := "8ac4f841f32210ee8a1d41322add455fb9598223d426a45c4206a8620a60ca82", checked := Try.checked }
namespace Rows
def none {H : Type} : Left H := { results := [], args := [] }

/-- 'stillagelaw05.RetryOwn': WHATEVER THE INPUT: true; the input reads as it did. -/
def retryOwnSpec : ChangeSpec := { name := "retryOwn", fn := fun _ => fun
  | [d1, d2] => { results := [.lit (.bool true)], args := [d1, d2] }
  | _ => none }
def retryOwnRow : OpenClaim := { program := "ytadbipeachcekaa", sum := "8ac4f841f32210ee8a1d41322add455fb9598223d426a45c4206a8620a60ca82", func := "stillage/stillagelaw05.RetryOwn", spec := "retryOwn", unfollowed := true, recurses := true, apart := false }
def RetryOwnSaid : Prop := retryOwnRow.holds Try.pinned (OpenSpec.ofChange retryOwnSpec)

/-- ITS FALSE NEIGHBOUR: 'it returns false'. Refute it at one input. -/
def retryOwnWrong : ChangeSpec := { name := "retryOwn", fn := fun _ => fun
  | [d1, d2] => { results := [.lit (.bool false)], args := [d1, d2] }
  | _ => none }
def RetryOwnWrongFalsely : Prop := retryOwnRow.holds Try.pinned (OpenSpec.ofChange retryOwnWrong)

/-- 'stillagelaw05.RetryWindow': WHATEVER THE INPUT: true; the input reads as it did. -/
def retryWindowSpec : ChangeSpec := { name := "retryWindow", fn := fun _ => fun
  | [d1, d2, d3] => { results := [.lit (.bool true)], args := [d1, d2, d3] }
  | _ => none }
def retryWindowRow : OpenClaim := { program := "ytadbipeachcekaa", sum := "8ac4f841f32210ee8a1d41322add455fb9598223d426a45c4206a8620a60ca82", func := "stillage/stillagelaw05.RetryWindow", spec := "retryWindow", unfollowed := true, recurses := true, apart := false }
def RetryWindowSaid : Prop := retryWindowRow.holds Try.pinned (OpenSpec.ofChange retryWindowSpec)

/-- ITS FALSE NEIGHBOUR: 'it returns false'. Refute it at one input. -/
def retryWindowWrong : ChangeSpec := { name := "retryWindow", fn := fun _ => fun
  | [d1, d2, d3] => { results := [.lit (.bool false)], args := [d1, d2, d3] }
  | _ => none }
def RetryWindowWrongFalsely : Prop := retryWindowRow.holds Try.pinned (OpenSpec.ofChange retryWindowWrong)

/-- 'stillagelaw05.RetryAcks': WHATEVER THE INPUT: true; the input reads as it did. -/
def retryAcksSpec : ChangeSpec := { name := "retryAcks", fn := fun _ => fun
  | [d1, d2, d3] => { results := [.lit (.bool true)], args := [d1, d2, d3] }
  | _ => none }
def retryAcksRow : OpenClaim := { program := "ytadbipeachcekaa", sum := "8ac4f841f32210ee8a1d41322add455fb9598223d426a45c4206a8620a60ca82", func := "stillage/stillagelaw05.RetryAcks", spec := "retryAcks", unfollowed := true, recurses := true, apart := false }
def RetryAcksSaid : Prop := retryAcksRow.holds Try.pinned (OpenSpec.ofChange retryAcksSpec)

/-- ITS FALSE NEIGHBOUR: 'it returns false'. Refute it at one input. -/
def retryAcksWrong : ChangeSpec := { name := "retryAcks", fn := fun _ => fun
  | [d1, d2, d3] => { results := [.lit (.bool false)], args := [d1, d2, d3] }
  | _ => none }
def RetryAcksWrongFalsely : Prop := retryAcksRow.holds Try.pinned (OpenSpec.ofChange retryAcksWrong)

/-- 'stillagelaw05.RetryPlays': WHATEVER THE INPUT: true; the input reads as it did. -/
def retryPlaysSpec : ChangeSpec := { name := "retryPlays", fn := fun _ => fun
  | [d1, d2] => { results := [.lit (.bool true)], args := [d1, d2] }
  | _ => none }
def retryPlaysRow : OpenClaim := { program := "ytadbipeachcekaa", sum := "8ac4f841f32210ee8a1d41322add455fb9598223d426a45c4206a8620a60ca82", func := "stillage/stillagelaw05.RetryPlays", spec := "retryPlays", unfollowed := true, recurses := true, apart := false }
def RetryPlaysSaid : Prop := retryPlaysRow.holds Try.pinned (OpenSpec.ofChange retryPlaysSpec)

/-- ITS FALSE NEIGHBOUR: 'it returns false'. Refute it at one input. -/
def retryPlaysWrong : ChangeSpec := { name := "retryPlays", fn := fun _ => fun
  | [d1, d2] => { results := [.lit (.bool false)], args := [d1, d2] }
  | _ => none }
def RetryPlaysWrongFalsely : Prop := retryPlaysRow.holds Try.pinned (OpenSpec.ofChange retryPlaysWrong)

/-- 'stillagelaw05.RetryTimes': WHATEVER THE INPUT: true; the input reads as it did. -/
def retryTimesSpec : ChangeSpec := { name := "retryTimes", fn := fun _ => fun
  | [d1, d2, d3] => { results := [.lit (.bool true)], args := [d1, d2, d3] }
  | _ => none }
def retryTimesRow : OpenClaim := { program := "ytadbipeachcekaa", sum := "8ac4f841f32210ee8a1d41322add455fb9598223d426a45c4206a8620a60ca82", func := "stillage/stillagelaw05.RetryTimes", spec := "retryTimes", unfollowed := true, recurses := true, apart := false }
def RetryTimesSaid : Prop := retryTimesRow.holds Try.pinned (OpenSpec.ofChange retryTimesSpec)

/-- ITS FALSE NEIGHBOUR: 'it returns false'. Refute it at one input. -/
def retryTimesWrong : ChangeSpec := { name := "retryTimes", fn := fun _ => fun
  | [d1, d2, d3] => { results := [.lit (.bool false)], args := [d1, d2, d3] }
  | _ => none }
def RetryTimesWrongFalsely : Prop := retryTimesRow.holds Try.pinned (OpenSpec.ofChange retryTimesWrong)

/-- 'stillagelaw05.RetryCarried': WHATEVER THE INPUT: true; the input reads as it did. -/
def retryCarriedSpec : ChangeSpec := { name := "retryCarried", fn := fun _ => fun
  | [d1, d2, d3] => { results := [.lit (.bool true)], args := [d1, d2, d3] }
  | _ => none }
def retryCarriedRow : OpenClaim := { program := "ytadbipeachcekaa", sum := "8ac4f841f32210ee8a1d41322add455fb9598223d426a45c4206a8620a60ca82", func := "stillage/stillagelaw05.RetryCarried", spec := "retryCarried", unfollowed := true, recurses := true, apart := false }
def RetryCarriedSaid : Prop := retryCarriedRow.holds Try.pinned (OpenSpec.ofChange retryCarriedSpec)

/-- ITS FALSE NEIGHBOUR: 'it returns false'. Refute it at one input. -/
def retryCarriedWrong : ChangeSpec := { name := "retryCarried", fn := fun _ => fun
  | [d1, d2, d3] => { results := [.lit (.bool false)], args := [d1, d2, d3] }
  | _ => none }
def RetryCarriedWrongFalsely : Prop := retryCarriedRow.holds Try.pinned (OpenSpec.ofChange retryCarriedWrong)

/- THE SECOND FORM. 'bulk': how many values and letters a reading holds, each counted each time it is reached (what is shared counts as often as it is met; a slice's spare places count too). A statement '..UptoSaid' is the law's where the arguments, and the package variables that the reading takes, are together of bulk at most 1048576: NARROWER than '..Said'. Prove '..Said' where nothing that the law and all that it calls make is longer than what came in: it says more and counts as full. Else prove '..UptoSaid'. A law counts once. -/
mutual
def uptoBulk {H : Type} : DataW H → Nat
  | .lit (.string bytes) => bytes.length + 1
  | .lit _ => 1
  | .nil => 1
  | .ptr d => uptoBulk d + 1
  | .slice elems spare => uptoBulkAll elems + uptoBulkAll spare + 1
  | .agg parts => uptoBulkAll parts + 1
  | .iface _ d => uptoBulk d + 1
  | .map entries => uptoBulkEntries entries + 1
  | .held _ => 1
def uptoBulkAll {H : Type} : List (DataW H) → Nat
  | [] => 0
  | d :: r => uptoBulk d + uptoBulkAll r
def uptoBulkEntries {H : Type} : List (Lit × DataW H) → Nat
  | [] => 0
  | x :: r => uptoBulkEntry x + uptoBulkEntries r
def uptoBulkEntry {H : Type} : Lit × DataW H → Nat
  | (.string bytes, d) => bytes.length + uptoBulk d + 1
  | (_, d) => uptoBulk d + 1
 end
def uptoSmall : (H : Type) → List (DataW H) → Bool := fun _ ds => decide (uptoBulkAll ds ≤ 1048576)
def OpenSpec.upto (s : _root_.Go.ChangeSpec) : _root_.Go.OpenSpec := { _root_.Go.OpenSpec.ofChange s with cond := some uptoSmall }

/-- 'stillagelaw05.RetryOwn', WHERE WHAT IT READS IS OF BULK AT MOST 1048576: true; the input reads as it did. -/
def retryOwnUptoRow : OpenClaim := { program := "ytadbipeachcekaa", sum := "8ac4f841f32210ee8a1d41322add455fb9598223d426a45c4206a8620a60ca82", func := "stillage/stillagelaw05.RetryOwn", spec := "retryOwn", unfollowed := true, recurses := true, apart := false, narrowed := true }
def RetryOwnUptoSaid : Prop := retryOwnUptoRow.holds Try.pinned (OpenSpec.upto retryOwnSpec)

/-- 'stillagelaw05.RetryWindow', WHERE WHAT IT READS IS OF BULK AT MOST 1048576: true; the input reads as it did. -/
def retryWindowUptoRow : OpenClaim := { program := "ytadbipeachcekaa", sum := "8ac4f841f32210ee8a1d41322add455fb9598223d426a45c4206a8620a60ca82", func := "stillage/stillagelaw05.RetryWindow", spec := "retryWindow", unfollowed := true, recurses := true, apart := false, narrowed := true }
def RetryWindowUptoSaid : Prop := retryWindowUptoRow.holds Try.pinned (OpenSpec.upto retryWindowSpec)

/-- 'stillagelaw05.RetryAcks', WHERE WHAT IT READS IS OF BULK AT MOST 1048576: true; the input reads as it did. -/
def retryAcksUptoRow : OpenClaim := { program := "ytadbipeachcekaa", sum := "8ac4f841f32210ee8a1d41322add455fb9598223d426a45c4206a8620a60ca82", func := "stillage/stillagelaw05.RetryAcks", spec := "retryAcks", unfollowed := true, recurses := true, apart := false, narrowed := true }
def RetryAcksUptoSaid : Prop := retryAcksUptoRow.holds Try.pinned (OpenSpec.upto retryAcksSpec)

/-- 'stillagelaw05.RetryPlays', WHERE WHAT IT READS IS OF BULK AT MOST 1048576: true; the input reads as it did. -/
def retryPlaysUptoRow : OpenClaim := { program := "ytadbipeachcekaa", sum := "8ac4f841f32210ee8a1d41322add455fb9598223d426a45c4206a8620a60ca82", func := "stillage/stillagelaw05.RetryPlays", spec := "retryPlays", unfollowed := true, recurses := true, apart := false, narrowed := true }
def RetryPlaysUptoSaid : Prop := retryPlaysUptoRow.holds Try.pinned (OpenSpec.upto retryPlaysSpec)

/-- 'stillagelaw05.RetryTimes', WHERE WHAT IT READS IS OF BULK AT MOST 1048576: true; the input reads as it did. -/
def retryTimesUptoRow : OpenClaim := { program := "ytadbipeachcekaa", sum := "8ac4f841f32210ee8a1d41322add455fb9598223d426a45c4206a8620a60ca82", func := "stillage/stillagelaw05.RetryTimes", spec := "retryTimes", unfollowed := true, recurses := true, apart := false, narrowed := true }
def RetryTimesUptoSaid : Prop := retryTimesUptoRow.holds Try.pinned (OpenSpec.upto retryTimesSpec)

/-- 'stillagelaw05.RetryCarried', WHERE WHAT IT READS IS OF BULK AT MOST 1048576: true; the input reads as it did. -/
def retryCarriedUptoRow : OpenClaim := { program := "ytadbipeachcekaa", sum := "8ac4f841f32210ee8a1d41322add455fb9598223d426a45c4206a8620a60ca82", func := "stillage/stillagelaw05.RetryCarried", spec := "retryCarried", unfollowed := true, recurses := true, apart := false, narrowed := true }
def RetryCarriedUptoSaid : Prop := retryCarriedUptoRow.holds Try.pinned (OpenSpec.upto retryCarriedSpec)

end Rows
end Go.Proofs.Ytadbipeachcekaa
