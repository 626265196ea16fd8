/-
  NARROWER THAN 'FOR EVERY INPUT', by the rows' own cells (each row's printed sentence says how): FenceNaive: loops · InterReads: loops · InterStops: loops · InterFirst: loops · InterRuns: loops · InterDoes: loops.
  DERIVED. THE GIVEN ROWS OF THIS SEAT. 10 by the template 'for every input the law returns true; each argument reads behind the call as it read before'; 0 by the template 'total and deterministic' (their statements: YtfeempgoejnfdaaTotals.lean).
  GIVEN WITH THE SEED: the statements are not yours to turn. If you find one false, say at which input.
  Laid BY PROGRAM, IN A SANDBOX (cutbox-rows.mjs): the forced cells as the released guide's own fill.sh prints them over the translation 33334b708187d32c… (all of the seat's roots in one cut). By AI agents, Wed Nov 11 2026. No macro, syntax, notation, axiom, sorry.
-/
import Derived.Test.YtfeempgoejnfdaaChecked
import GoSem.Claim
import GoSem.ClaimJoined
import GoSem.ClaimMapViews
import Derived.JoinedTies
import Derived.KernelRfl
namespace Go.Proofs.Ytfeempgoejnfdaa
/- THE CELL 'sum', in the pinned program and in every row, IS THE sha256 OF THE DUMP (.gsa) THAT YtfeempgoejnfdaaProg.lean LOADS. Nothing in Lean hashes anything: it is a label: what it is worth is what the hold of that sum in a sandbox is worth. -/
noncomputable def Try.pinned : Pinned := { name := "ytfeempgoejnfdaa", sum := "33334b708187d32cd359d934c1c00a69d54f7636385de615202f73a38380e335", checked := Try.checked }
namespace Rows
def none {H : Type} : Left H := { results := [], args := [] }

/-- 'tourbillonlaw21.OrderWays': WHATEVER THE INPUT: true; the input reads as it did. -/
def orderWaysSpec : ChangeSpec := { name := "orderWays", fn := fun _ => fun
  | [d] => { results := [.lit (.bool true)], args := [d] }
  | _ => none }
def orderWaysRow : OpenClaim := { program := "ytfeempgoejnfdaa", sum := "33334b708187d32cd359d934c1c00a69d54f7636385de615202f73a38380e335", func := "tourbillon/tourbillonlaw21.OrderWays", spec := "orderWays", unfollowed := true, recurses := true, apart := false }
def OrderWaysSaid : Prop := orderWaysRow.holds Try.pinned (OpenSpec.ofChange orderWaysSpec)

/-- ITS FALSE NEIGHBOUR: 'it returns false'. Refute it at one input. -/
def orderWaysWrong : ChangeSpec := { name := "orderWays", fn := fun _ => fun
  | [d] => { results := [.lit (.bool false)], args := [d] }
  | _ => none }
def OrderWaysWrongFalsely : Prop := orderWaysRow.holds Try.pinned (OpenSpec.ofChange orderWaysWrong)

/-- 'tourbillonlaw21.OrderSerial': WHATEVER THE INPUT: true; the input reads as it did. -/
def orderSerialSpec : ChangeSpec := { name := "orderSerial", fn := fun _ => fun
  | [d] => { results := [.lit (.bool true)], args := [d] }
  | _ => none }
def orderSerialRow : OpenClaim := { program := "ytfeempgoejnfdaa", sum := "33334b708187d32cd359d934c1c00a69d54f7636385de615202f73a38380e335", func := "tourbillon/tourbillonlaw21.OrderSerial", spec := "orderSerial", unfollowed := true, recurses := true, apart := false }
def OrderSerialSaid : Prop := orderSerialRow.holds Try.pinned (OpenSpec.ofChange orderSerialSpec)

/-- ITS FALSE NEIGHBOUR: 'it returns false'. Refute it at one input. -/
def orderSerialWrong : ChangeSpec := { name := "orderSerial", fn := fun _ => fun
  | [d] => { results := [.lit (.bool false)], args := [d] }
  | _ => none }
def OrderSerialWrongFalsely : Prop := orderSerialRow.holds Try.pinned (OpenSpec.ofChange orderSerialWrong)

/-- 'tourbillonlaw21.OrderHappens': WHATEVER THE INPUT: true; the input reads as it did. -/
def orderHappensSpec : ChangeSpec := { name := "orderHappens", fn := fun _ => fun
  | [d] => { results := [.lit (.bool true)], args := [d] }
  | _ => none }
def orderHappensRow : OpenClaim := { program := "ytfeempgoejnfdaa", sum := "33334b708187d32cd359d934c1c00a69d54f7636385de615202f73a38380e335", func := "tourbillon/tourbillonlaw21.OrderHappens", spec := "orderHappens", unfollowed := true, recurses := true, apart := false }
def OrderHappensSaid : Prop := orderHappensRow.holds Try.pinned (OpenSpec.ofChange orderHappensSpec)

/-- ITS FALSE NEIGHBOUR: 'it returns false'. Refute it at one input. -/
def orderHappensWrong : ChangeSpec := { name := "orderHappens", fn := fun _ => fun
  | [d] => { results := [.lit (.bool false)], args := [d] }
  | _ => none }
def OrderHappensWrongFalsely : Prop := orderHappensRow.holds Try.pinned (OpenSpec.ofChange orderHappensWrong)

/-- 'tourbillonlaw12.FenceNaive': WHATEVER THE INPUT: true; the input reads as it did. -/
def fenceNaiveSpec : ChangeSpec := { name := "fenceNaive", fn := fun _ => fun
  | [d] => { results := [.lit (.bool true)], args := [d] }
  | _ => none }
def fenceNaiveRow : OpenClaim := { program := "ytfeempgoejnfdaa", sum := "33334b708187d32cd359d934c1c00a69d54f7636385de615202f73a38380e335", func := "tourbillon/tourbillonlaw12.FenceNaive", spec := "fenceNaive", unfollowed := true, recurses := true, loops := true, apart := false }
def FenceNaiveSaid : Prop := fenceNaiveRow.holds Try.pinned (OpenSpec.ofChange fenceNaiveSpec)

/-- ITS FALSE NEIGHBOUR: 'it returns false'. Refute it at one input. -/
def fenceNaiveWrong : ChangeSpec := { name := "fenceNaive", fn := fun _ => fun
  | [d] => { results := [.lit (.bool false)], args := [d] }
  | _ => none }
def FenceNaiveWrongFalsely : Prop := fenceNaiveRow.holds Try.pinned (OpenSpec.ofChange fenceNaiveWrong)

/-- 'tourbillonlaw22.InterReads': WHATEVER THE INPUT: true; the input reads as it did. -/
def interReadsSpec : ChangeSpec := { name := "interReads", fn := fun _ => fun
  | [d1, d2] => { results := [.lit (.bool true)], args := [d1, d2] }
  | _ => none }
def interReadsRow : OpenClaim := { program := "ytfeempgoejnfdaa", sum := "33334b708187d32cd359d934c1c00a69d54f7636385de615202f73a38380e335", func := "tourbillon/tourbillonlaw22.InterReads", spec := "interReads", unfollowed := true, recurses := true, loops := true, apart := false }
def InterReadsSaid : Prop := interReadsRow.holds Try.pinned (OpenSpec.ofChange interReadsSpec)

/-- ITS FALSE NEIGHBOUR: 'it returns false'. Refute it at one input. -/
def interReadsWrong : ChangeSpec := { name := "interReads", fn := fun _ => fun
  | [d1, d2] => { results := [.lit (.bool false)], args := [d1, d2] }
  | _ => none }
def InterReadsWrongFalsely : Prop := interReadsRow.holds Try.pinned (OpenSpec.ofChange interReadsWrong)

/-- 'tourbillonlaw22.InterStops': WHATEVER THE INPUT: true; the input reads as it did. -/
def interStopsSpec : ChangeSpec := { name := "interStops", fn := fun _ => fun
  | [d1, d2, d3] => { results := [.lit (.bool true)], args := [d1, d2, d3] }
  | _ => none }
def interStopsRow : OpenClaim := { program := "ytfeempgoejnfdaa", sum := "33334b708187d32cd359d934c1c00a69d54f7636385de615202f73a38380e335", func := "tourbillon/tourbillonlaw22.InterStops", spec := "interStops", unfollowed := true, recurses := true, loops := true, apart := false }
def InterStopsSaid : Prop := interStopsRow.holds Try.pinned (OpenSpec.ofChange interStopsSpec)

/-- ITS FALSE NEIGHBOUR: 'it returns false'. Refute it at one input. -/
def interStopsWrong : ChangeSpec := { name := "interStops", fn := fun _ => fun
  | [d1, d2, d3] => { results := [.lit (.bool false)], args := [d1, d2, d3] }
  | _ => none }
def InterStopsWrongFalsely : Prop := interStopsRow.holds Try.pinned (OpenSpec.ofChange interStopsWrong)

/-- 'tourbillonlaw22.InterFirst': WHATEVER THE INPUT: true; the input reads as it did. -/
def interFirstSpec : ChangeSpec := { name := "interFirst", fn := fun _ => fun
  | [d1, d2, d3] => { results := [.lit (.bool true)], args := [d1, d2, d3] }
  | _ => none }
def interFirstRow : OpenClaim := { program := "ytfeempgoejnfdaa", sum := "33334b708187d32cd359d934c1c00a69d54f7636385de615202f73a38380e335", func := "tourbillon/tourbillonlaw22.InterFirst", spec := "interFirst", unfollowed := true, recurses := true, loops := true, apart := false }
def InterFirstSaid : Prop := interFirstRow.holds Try.pinned (OpenSpec.ofChange interFirstSpec)

/-- ITS FALSE NEIGHBOUR: 'it returns false'. Refute it at one input. -/
def interFirstWrong : ChangeSpec := { name := "interFirst", fn := fun _ => fun
  | [d1, d2, d3] => { results := [.lit (.bool false)], args := [d1, d2, d3] }
  | _ => none }
def InterFirstWrongFalsely : Prop := interFirstRow.holds Try.pinned (OpenSpec.ofChange interFirstWrong)

/-- 'tourbillonlaw22.InterRuns': WHATEVER THE INPUT: true; the input reads as it did. -/
def interRunsSpec : ChangeSpec := { name := "interRuns", fn := fun _ => fun
  | [d1, d2] => { results := [.lit (.bool true)], args := [d1, d2] }
  | _ => none }
def interRunsRow : OpenClaim := { program := "ytfeempgoejnfdaa", sum := "33334b708187d32cd359d934c1c00a69d54f7636385de615202f73a38380e335", func := "tourbillon/tourbillonlaw22.InterRuns", spec := "interRuns", unfollowed := true, recurses := true, loops := true, apart := false }
def InterRunsSaid : Prop := interRunsRow.holds Try.pinned (OpenSpec.ofChange interRunsSpec)

/-- ITS FALSE NEIGHBOUR: 'it returns false'. Refute it at one input. -/
def interRunsWrong : ChangeSpec := { name := "interRuns", fn := fun _ => fun
  | [d1, d2] => { results := [.lit (.bool false)], args := [d1, d2] }
  | _ => none }
def InterRunsWrongFalsely : Prop := interRunsRow.holds Try.pinned (OpenSpec.ofChange interRunsWrong)

/-- 'tourbillonlaw21.OrderApart': WHATEVER THE INPUT: true; the input reads as it did. -/
def orderApartSpec : ChangeSpec := { name := "orderApart", fn := fun _ => fun
  | [d] => { results := [.lit (.bool true)], args := [d] }
  | _ => none }
def orderApartRow : OpenClaim := { program := "ytfeempgoejnfdaa", sum := "33334b708187d32cd359d934c1c00a69d54f7636385de615202f73a38380e335", func := "tourbillon/tourbillonlaw21.OrderApart", spec := "orderApart", unfollowed := true, recurses := true, apart := false }
def OrderApartSaid : Prop := orderApartRow.holds Try.pinned (OpenSpec.ofChange orderApartSpec)

/-- ITS FALSE NEIGHBOUR: 'it returns false'. Refute it at one input. -/
def orderApartWrong : ChangeSpec := { name := "orderApart", fn := fun _ => fun
  | [d] => { results := [.lit (.bool false)], args := [d] }
  | _ => none }
def OrderApartWrongFalsely : Prop := orderApartRow.holds Try.pinned (OpenSpec.ofChange orderApartWrong)

/-- 'tourbillonlaw22.InterDoes': WHATEVER THE INPUT: true; the input reads as it did. -/
def interDoesSpec : ChangeSpec := { name := "interDoes", fn := fun _ => fun
  | [d1, d2] => { results := [.lit (.bool true)], args := [d1, d2] }
  | _ => none }
def interDoesRow : OpenClaim := { program := "ytfeempgoejnfdaa", sum := "33334b708187d32cd359d934c1c00a69d54f7636385de615202f73a38380e335", func := "tourbillon/tourbillonlaw22.InterDoes", spec := "interDoes", unfollowed := true, recurses := true, loops := true, apart := false }
def InterDoesSaid : Prop := interDoesRow.holds Try.pinned (OpenSpec.ofChange interDoesSpec)

/-- ITS FALSE NEIGHBOUR: 'it returns false'. Refute it at one input. -/
def interDoesWrong : ChangeSpec := { name := "interDoes", fn := fun _ => fun
  | [d1, d2] => { results := [.lit (.bool false)], args := [d1, d2] }
  | _ => none }
def InterDoesWrongFalsely : Prop := interDoesRow.holds Try.pinned (OpenSpec.ofChange interDoesWrong)

/- THE SECOND FORM. 'bulk': how many values and letters a reading holds, each counted each time it is reached (what is shared counts as often as it is met; a slice's spare places count too). A statement '..UptoSaid' is the law's where the arguments, and the package variables that the reading takes, are together of bulk at most 1048576: NARROWER than '..Said'. Prove '..Said' where nothing that the law and all that it calls make is longer than what came in: it says more and counts as full. Else prove '..UptoSaid'. A law counts once. -/
mutual
def uptoBulk {H : Type} : DataW H → Nat
  | .lit (.string bytes) => bytes.length + 1
  | .lit _ => 1
  | .nil => 1
  | .ptr d => uptoBulk d + 1
  | .slice elems spare => uptoBulkAll elems + uptoBulkAll spare + 1
  | .agg parts => uptoBulkAll parts + 1
  | .iface _ d => uptoBulk d + 1
  | .map entries => uptoBulkEntries entries + 1
  | .held _ => 1
def uptoBulkAll {H : Type} : List (DataW H) → Nat
  | [] => 0
  | d :: r => uptoBulk d + uptoBulkAll r
def uptoBulkEntries {H : Type} : List (Lit × DataW H) → Nat
  | [] => 0
  | x :: r => uptoBulkEntry x + uptoBulkEntries r
def uptoBulkEntry {H : Type} : Lit × DataW H → Nat
  | (.string bytes, d) => bytes.length + uptoBulk d + 1
  | (_, d) => uptoBulk d + 1
 end
def uptoSmall : (H : Type) → List (DataW H) → Bool := fun _ ds => decide (uptoBulkAll ds ≤ 1048576)
def OpenSpec.upto (s : _root_.Go.ChangeSpec) : _root_.Go.OpenSpec := { _root_.Go.OpenSpec.ofChange s with cond := some uptoSmall }

/-- 'tourbillonlaw21.OrderWays', WHERE WHAT IT READS IS OF BULK AT MOST 1048576: true; the input reads as it did. -/
def orderWaysUptoRow : OpenClaim := { program := "ytfeempgoejnfdaa", sum := "33334b708187d32cd359d934c1c00a69d54f7636385de615202f73a38380e335", func := "tourbillon/tourbillonlaw21.OrderWays", spec := "orderWays", unfollowed := true, recurses := true, apart := false, narrowed := true }
def OrderWaysUptoSaid : Prop := orderWaysUptoRow.holds Try.pinned (OpenSpec.upto orderWaysSpec)

/-- 'tourbillonlaw21.OrderSerial', WHERE WHAT IT READS IS OF BULK AT MOST 1048576: true; the input reads as it did. -/
def orderSerialUptoRow : OpenClaim := { program := "ytfeempgoejnfdaa", sum := "33334b708187d32cd359d934c1c00a69d54f7636385de615202f73a38380e335", func := "tourbillon/tourbillonlaw21.OrderSerial", spec := "orderSerial", unfollowed := true, recurses := true, apart := false, narrowed := true }
def OrderSerialUptoSaid : Prop := orderSerialUptoRow.holds Try.pinned (OpenSpec.upto orderSerialSpec)

/-- 'tourbillonlaw21.OrderHappens', WHERE WHAT IT READS IS OF BULK AT MOST 1048576: true; the input reads as it did. -/
def orderHappensUptoRow : OpenClaim := { program := "ytfeempgoejnfdaa", sum := "33334b708187d32cd359d934c1c00a69d54f7636385de615202f73a38380e335", func := "tourbillon/tourbillonlaw21.OrderHappens", spec := "orderHappens", unfollowed := true, recurses := true, apart := false, narrowed := true }
def OrderHappensUptoSaid : Prop := orderHappensUptoRow.holds Try.pinned (OpenSpec.upto orderHappensSpec)

/-- 'tourbillonlaw12.FenceNaive', WHERE WHAT IT READS IS OF BULK AT MOST 1048576: true; the input reads as it did. -/
def fenceNaiveUptoRow : OpenClaim := { program := "ytfeempgoejnfdaa", sum := "33334b708187d32cd359d934c1c00a69d54f7636385de615202f73a38380e335", func := "tourbillon/tourbillonlaw12.FenceNaive", spec := "fenceNaive", unfollowed := true, recurses := true, loops := true, apart := false, narrowed := true }
def FenceNaiveUptoSaid : Prop := fenceNaiveUptoRow.holds Try.pinned (OpenSpec.upto fenceNaiveSpec)

/-- 'tourbillonlaw22.InterReads', WHERE WHAT IT READS IS OF BULK AT MOST 1048576: true; the input reads as it did. -/
def interReadsUptoRow : OpenClaim := { program := "ytfeempgoejnfdaa", sum := "33334b708187d32cd359d934c1c00a69d54f7636385de615202f73a38380e335", func := "tourbillon/tourbillonlaw22.InterReads", spec := "interReads", unfollowed := true, recurses := true, loops := true, apart := false, narrowed := true }
def InterReadsUptoSaid : Prop := interReadsUptoRow.holds Try.pinned (OpenSpec.upto interReadsSpec)

/-- 'tourbillonlaw22.InterStops', WHERE WHAT IT READS IS OF BULK AT MOST 1048576: true; the input reads as it did. -/
def interStopsUptoRow : OpenClaim := { program := "ytfeempgoejnfdaa", sum := "33334b708187d32cd359d934c1c00a69d54f7636385de615202f73a38380e335", func := "tourbillon/tourbillonlaw22.InterStops", spec := "interStops", unfollowed := true, recurses := true, loops := true, apart := false, narrowed := true }
def InterStopsUptoSaid : Prop := interStopsUptoRow.holds Try.pinned (OpenSpec.upto interStopsSpec)

/-- 'tourbillonlaw22.InterFirst', WHERE WHAT IT READS IS OF BULK AT MOST 1048576: true; the input reads as it did. -/
def interFirstUptoRow : OpenClaim := { program := "ytfeempgoejnfdaa", sum := "33334b708187d32cd359d934c1c00a69d54f7636385de615202f73a38380e335", func := "tourbillon/tourbillonlaw22.InterFirst", spec := "interFirst", unfollowed := true, recurses := true, loops := true, apart := false, narrowed := true }
def InterFirstUptoSaid : Prop := interFirstUptoRow.holds Try.pinned (OpenSpec.upto interFirstSpec)

/-- 'tourbillonlaw22.InterRuns', WHERE WHAT IT READS IS OF BULK AT MOST 1048576: true; the input reads as it did. -/
def interRunsUptoRow : OpenClaim := { program := "ytfeempgoejnfdaa", sum := "33334b708187d32cd359d934c1c00a69d54f7636385de615202f73a38380e335", func := "tourbillon/tourbillonlaw22.InterRuns", spec := "interRuns", unfollowed := true, recurses := true, loops := true, apart := false, narrowed := true }
def InterRunsUptoSaid : Prop := interRunsUptoRow.holds Try.pinned (OpenSpec.upto interRunsSpec)

/-- 'tourbillonlaw21.OrderApart', WHERE WHAT IT READS IS OF BULK AT MOST 1048576: true; the input reads as it did. -/
def orderApartUptoRow : OpenClaim := { program := "ytfeempgoejnfdaa", sum := "33334b708187d32cd359d934c1c00a69d54f7636385de615202f73a38380e335", func := "tourbillon/tourbillonlaw21.OrderApart", spec := "orderApart", unfollowed := true, recurses := true, apart := false, narrowed := true }
def OrderApartUptoSaid : Prop := orderApartUptoRow.holds Try.pinned (OpenSpec.upto orderApartSpec)

/-- 'tourbillonlaw22.InterDoes', WHERE WHAT IT READS IS OF BULK AT MOST 1048576: true; the input reads as it did. -/
def interDoesUptoRow : OpenClaim := { program := "ytfeempgoejnfdaa", sum := "33334b708187d32cd359d934c1c00a69d54f7636385de615202f73a38380e335", func := "tourbillon/tourbillonlaw22.InterDoes", spec := "interDoes", unfollowed := true, recurses := true, loops := true, apart := false, narrowed := true }
def InterDoesUptoSaid : Prop := interDoesUptoRow.holds Try.pinned (OpenSpec.upto interDoesSpec)

end Rows
end Go.Proofs.Ytfeempgoejnfdaa
