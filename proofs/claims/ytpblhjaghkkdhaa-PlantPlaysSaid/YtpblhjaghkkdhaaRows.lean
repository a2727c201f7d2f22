/-
  No cell of these rows narrows 'for every input' (looked for: loops, veiled, ifaces, maps, wideKeys, modest, calm, conditions, laid).
  DERIVED. THE GIVEN ROWS OF THIS SEAT. 6 by the template 'for every input the law returns true; each argument reads behind the call as it read before'; 0 by the template 'total and deterministic' (their statements: YtpblhjaghkkdhaaTotals.lean).
  GIVEN WITH THE SEED: the statements are not yours to turn. If you find one false, say at which input.
  Laid BY PROGRAM, IN A SANDBOX (cutbox-rows.mjs): the forced cells as the released guide's own fill.sh prints them over the translation a35bed5f5d3d3800… (all of the seat's roots in one cut). By AI agents, Wed Nov 11 2026. No macro, syntax, notation, axiom, sorry.
-/
import Derived.Test.YtpblhjaghkkdhaaChecked
import GoSem.Claim
import GoSem.ClaimJoined
import GoSem.ClaimMapViews
import Derived.JoinedTies
import Derived.KernelRfl
namespace Go.Proofs.Ytpblhjaghkkdhaa
/- THE CELL 'sum', in the pinned program and in every row, IS THE sha256 OF THE DUMP (.gsa) THAT YtpblhjaghkkdhaaProg.lean LOADS. Nothing in Lean hashes anything: it is a label: what it is worth is what the hold of that sum in a sandbox is worth. -/
noncomputable def Try.pinned : Pinned := { name := "ytpblhjaghkkdhaa", sum := "a35bed5f5d3d3800f2fb991dfe944a5f0d88e83857878f7497e16355a6d49206", checked := Try.checked }
namespace Rows
def none {H : Type} : Left H := { results := [], args := [] }

/-- 'stillagelaw20.PlantRounds': WHATEVER THE INPUT: true; the input reads as it did. -/
def plantRoundsSpec : ChangeSpec := { name := "plantRounds", fn := fun _ => fun
  | [d1, d2, d3] => { results := [.lit (.bool true)], args := [d1, d2, d3] }
  | _ => none }
def plantRoundsRow : OpenClaim := { program := "ytpblhjaghkkdhaa", sum := "a35bed5f5d3d3800f2fb991dfe944a5f0d88e83857878f7497e16355a6d49206", func := "stillage/stillagelaw20.PlantRounds", spec := "plantRounds", unfollowed := true, recurses := true, plainKeys := false, apart := false }
def PlantRoundsSaid : Prop := plantRoundsRow.holds Try.pinned (OpenSpec.ofChange plantRoundsSpec)

/-- ITS FALSE NEIGHBOUR: 'it returns false'. Refute it at one input. -/
def plantRoundsWrong : ChangeSpec := { name := "plantRounds", fn := fun _ => fun
  | [d1, d2, d3] => { results := [.lit (.bool false)], args := [d1, d2, d3] }
  | _ => none }
def PlantRoundsWrongFalsely : Prop := plantRoundsRow.holds Try.pinned (OpenSpec.ofChange plantRoundsWrong)

/-- 'stillagelaw20.PlantTwice': WHATEVER THE INPUT: true; the input reads as it did. -/
def plantTwiceSpec : ChangeSpec := { name := "plantTwice", fn := fun _ => fun
  | [d1, d2] => { results := [.lit (.bool true)], args := [d1, d2] }
  | _ => none }
def plantTwiceRow : OpenClaim := { program := "ytpblhjaghkkdhaa", sum := "a35bed5f5d3d3800f2fb991dfe944a5f0d88e83857878f7497e16355a6d49206", func := "stillage/stillagelaw20.PlantTwice", spec := "plantTwice", unfollowed := true, recurses := true, plainKeys := false, apart := false }
def PlantTwiceSaid : Prop := plantTwiceRow.holds Try.pinned (OpenSpec.ofChange plantTwiceSpec)

/-- ITS FALSE NEIGHBOUR: 'it returns false'. Refute it at one input. -/
def plantTwiceWrong : ChangeSpec := { name := "plantTwice", fn := fun _ => fun
  | [d1, d2] => { results := [.lit (.bool false)], args := [d1, d2] }
  | _ => none }
def PlantTwiceWrongFalsely : Prop := plantTwiceRow.holds Try.pinned (OpenSpec.ofChange plantTwiceWrong)

/-- 'stillagelaw20.PlantFaults': WHATEVER THE INPUT: true; the input reads as it did. -/
def plantFaultsSpec : ChangeSpec := { name := "plantFaults", fn := fun _ => fun
  | [d1, d2, d3] => { results := [.lit (.bool true)], args := [d1, d2, d3] }
  | _ => none }
def plantFaultsRow : OpenClaim := { program := "ytpblhjaghkkdhaa", sum := "a35bed5f5d3d3800f2fb991dfe944a5f0d88e83857878f7497e16355a6d49206", func := "stillage/stillagelaw20.PlantFaults", spec := "plantFaults", unfollowed := true, recurses := true, plainKeys := false, apart := false }
def PlantFaultsSaid : Prop := plantFaultsRow.holds Try.pinned (OpenSpec.ofChange plantFaultsSpec)

/-- ITS FALSE NEIGHBOUR: 'it returns false'. Refute it at one input. -/
def plantFaultsWrong : ChangeSpec := { name := "plantFaults", fn := fun _ => fun
  | [d1, d2, d3] => { results := [.lit (.bool false)], args := [d1, d2, d3] }
  | _ => none }
def PlantFaultsWrongFalsely : Prop := plantFaultsRow.holds Try.pinned (OpenSpec.ofChange plantFaultsWrong)

/-- 'stillagelaw20.PlantAsks': WHATEVER THE INPUT: true; the input reads as it did. -/
def plantAsksSpec : ChangeSpec := { name := "plantAsks", fn := fun _ => fun
  | [d1, d2] => { results := [.lit (.bool true)], args := [d1, d2] }
  | _ => none }
def plantAsksRow : OpenClaim := { program := "ytpblhjaghkkdhaa", sum := "a35bed5f5d3d3800f2fb991dfe944a5f0d88e83857878f7497e16355a6d49206", func := "stillage/stillagelaw20.PlantAsks", spec := "plantAsks", unfollowed := true, recurses := true, plainKeys := false, apart := false }
def PlantAsksSaid : Prop := plantAsksRow.holds Try.pinned (OpenSpec.ofChange plantAsksSpec)

/-- ITS FALSE NEIGHBOUR: 'it returns false'. Refute it at one input. -/
def plantAsksWrong : ChangeSpec := { name := "plantAsks", fn := fun _ => fun
  | [d1, d2] => { results := [.lit (.bool false)], args := [d1, d2] }
  | _ => none }
def PlantAsksWrongFalsely : Prop := plantAsksRow.holds Try.pinned (OpenSpec.ofChange plantAsksWrong)

/-- 'stillagelaw20.PlantPlays': WHATEVER THE INPUT: true; the input reads as it did. -/
def plantPlaysSpec : ChangeSpec := { name := "plantPlays", fn := fun _ => fun
  | [d1, d2] => { results := [.lit (.bool true)], args := [d1, d2] }
  | _ => none }
def plantPlaysRow : OpenClaim := { program := "ytpblhjaghkkdhaa", sum := "a35bed5f5d3d3800f2fb991dfe944a5f0d88e83857878f7497e16355a6d49206", func := "stillage/stillagelaw20.PlantPlays", spec := "plantPlays", unfollowed := true, recurses := true, plainKeys := false, apart := false }
def PlantPlaysSaid : Prop := plantPlaysRow.holds Try.pinned (OpenSpec.ofChange plantPlaysSpec)

/-- ITS FALSE NEIGHBOUR: 'it returns false'. Refute it at one input. -/
def plantPlaysWrong : ChangeSpec := { name := "plantPlays", fn := fun _ => fun
  | [d1, d2] => { results := [.lit (.bool false)], args := [d1, d2] }
  | _ => none }
def PlantPlaysWrongFalsely : Prop := plantPlaysRow.holds Try.pinned (OpenSpec.ofChange plantPlaysWrong)

/-- 'stillagelaw20.PlantStill': WHATEVER THE INPUT: true; the input reads as it did. -/
def plantStillSpec : ChangeSpec := { name := "plantStill", fn := fun _ => fun
  | [d1, d2] => { results := [.lit (.bool true)], args := [d1, d2] }
  | _ => none }
def plantStillRow : OpenClaim := { program := "ytpblhjaghkkdhaa", sum := "a35bed5f5d3d3800f2fb991dfe944a5f0d88e83857878f7497e16355a6d49206", func := "stillage/stillagelaw20.PlantStill", spec := "plantStill", unfollowed := true, recurses := true, plainKeys := false, apart := false }
def PlantStillSaid : Prop := plantStillRow.holds Try.pinned (OpenSpec.ofChange plantStillSpec)

/-- ITS FALSE NEIGHBOUR: 'it returns false'. Refute it at one input. -/
def plantStillWrong : ChangeSpec := { name := "plantStill", fn := fun _ => fun
  | [d1, d2] => { results := [.lit (.bool false)], args := [d1, d2] }
  | _ => none }
def PlantStillWrongFalsely : Prop := plantStillRow.holds Try.pinned (OpenSpec.ofChange plantStillWrong)

/- THE SECOND FORM. 'bulk': how many values and letters a reading holds, each counted each time it is reached (what is shared counts as often as it is met; a slice's spare places count too). A statement '..UptoSaid' is the law's where the arguments, and the package variables that the reading takes, are together of bulk at most 1048576: NARROWER than '..Said'. Prove '..Said' where nothing that the law and all that it calls make is longer than what came in: it says more and counts as full. Else prove '..UptoSaid'. A law counts once. -/
mutual
def uptoBulk {H : Type} : DataW H → Nat
  | .lit (.string bytes) => bytes.length + 1
  | .lit _ => 1
  | .nil => 1
  | .ptr d => uptoBulk d + 1
  | .slice elems spare => uptoBulkAll elems + uptoBulkAll spare + 1
  | .agg parts => uptoBulkAll parts + 1
  | .iface _ d => uptoBulk d + 1
  | .map entries => uptoBulkEntries entries + 1
  | .held _ => 1
def uptoBulkAll {H : Type} : List (DataW H) → Nat
  | [] => 0
  | d :: r => uptoBulk d + uptoBulkAll r
def uptoBulkEntries {H : Type} : List (Lit × DataW H) → Nat
  | [] => 0
  | x :: r => uptoBulkEntry x + uptoBulkEntries r
def uptoBulkEntry {H : Type} : Lit × DataW H → Nat
  | (.string bytes, d) => bytes.length + uptoBulk d + 1
  | (_, d) => uptoBulk d + 1
 end
def uptoSmall : (H : Type) → List (DataW H) → Bool := fun _ ds => decide (uptoBulkAll ds ≤ 1048576)
def OpenSpec.upto (s : _root_.Go.ChangeSpec) : _root_.Go.OpenSpec := { _root_.Go.OpenSpec.ofChange s with cond := some uptoSmall }

/-- 'stillagelaw20.PlantRounds', WHERE WHAT IT READS IS OF BULK AT MOST 1048576: true; the input reads as it did. -/
def plantRoundsUptoRow : OpenClaim := { program := "ytpblhjaghkkdhaa", sum := "a35bed5f5d3d3800f2fb991dfe944a5f0d88e83857878f7497e16355a6d49206", func := "stillage/stillagelaw20.PlantRounds", spec := "plantRounds", unfollowed := true, recurses := true, plainKeys := false, apart := false, narrowed := true }
def PlantRoundsUptoSaid : Prop := plantRoundsUptoRow.holds Try.pinned (OpenSpec.upto plantRoundsSpec)

/-- 'stillagelaw20.PlantTwice', WHERE WHAT IT READS IS OF BULK AT MOST 1048576: true; the input reads as it did. -/
def plantTwiceUptoRow : OpenClaim := { program := "ytpblhjaghkkdhaa", sum := "a35bed5f5d3d3800f2fb991dfe944a5f0d88e83857878f7497e16355a6d49206", func := "stillage/stillagelaw20.PlantTwice", spec := "plantTwice", unfollowed := true, recurses := true, plainKeys := false, apart := false, narrowed := true }
def PlantTwiceUptoSaid : Prop := plantTwiceUptoRow.holds Try.pinned (OpenSpec.upto plantTwiceSpec)

/-- 'stillagelaw20.PlantFaults', WHERE WHAT IT READS IS OF BULK AT MOST 1048576: true; the input reads as it did. -/
def plantFaultsUptoRow : OpenClaim := { program := "ytpblhjaghkkdhaa", sum := "a35bed5f5d3d3800f2fb991dfe944a5f0d88e83857878f7497e16355a6d49206", func := "stillage/stillagelaw20.PlantFaults", spec := "plantFaults", unfollowed := true, recurses := true, plainKeys := false, apart := false, narrowed := true }
def PlantFaultsUptoSaid : Prop := plantFaultsUptoRow.holds Try.pinned (OpenSpec.upto plantFaultsSpec)

/-- 'stillagelaw20.PlantAsks', WHERE WHAT IT READS IS OF BULK AT MOST 1048576: true; the input reads as it did. -/
def plantAsksUptoRow : OpenClaim := { program := "ytpblhjaghkkdhaa", sum := "a35bed5f5d3d3800f2fb991dfe944a5f0d88e83857878f7497e16355a6d49206", func := "stillage/stillagelaw20.PlantAsks", spec := "plantAsks", unfollowed := true, recurses := true, plainKeys := false, apart := false, narrowed := true }
def PlantAsksUptoSaid : Prop := plantAsksUptoRow.holds Try.pinned (OpenSpec.upto plantAsksSpec)

/-- 'stillagelaw20.PlantPlays', WHERE WHAT IT READS IS OF BULK AT MOST 1048576: true; the input reads as it did. -/
def plantPlaysUptoRow : OpenClaim := { program := "ytpblhjaghkkdhaa", sum := "a35bed5f5d3d3800f2fb991dfe944a5f0d88e83857878f7497e16355a6d49206", func := "stillage/stillagelaw20.PlantPlays", spec := "plantPlays", unfollowed := true, recurses := true, plainKeys := false, apart := false, narrowed := true }
def PlantPlaysUptoSaid : Prop := plantPlaysUptoRow.holds Try.pinned (OpenSpec.upto plantPlaysSpec)

/-- 'stillagelaw20.PlantStill', WHERE WHAT IT READS IS OF BULK AT MOST 1048576: true; the input reads as it did. -/
def plantStillUptoRow : OpenClaim := { program := "ytpblhjaghkkdhaa", sum := "a35bed5f5d3d3800f2fb991dfe944a5f0d88e83857878f7497e16355a6d49206", func := "stillage/stillagelaw20.PlantStill", spec := "plantStill", unfollowed := true, recurses := true, plainKeys := false, apart := false, narrowed := true }
def PlantStillUptoSaid : Prop := plantStillUptoRow.holds Try.pinned (OpenSpec.upto plantStillSpec)

end Rows
end Go.Proofs.Ytpblhjaghkkdhaa
