/-
  No cell of these rows narrows 'for every input' (looked for: loops, veiled, ifaces, maps, wideKeys, modest, calm, conditions, laid).
  DERIVED. THE GIVEN ROWS OF THIS SEAT. 5 by the template 'for every input the law returns true; each argument reads behind the call as it read before'; 0 by the template 'total and deterministic' (their statements: YtkifmdfmbmbdaaaTotals.lean).
  GIVEN WITH THE SEED: the statements are not yours to turn. If you find one false, say at which input.
  Laid BY PROGRAM, IN A SANDBOX (cutbox-rows.mjs): the forced cells as the released guide's own fill.sh prints them over the translation fde6451ca62e1557… (all of the seat's roots in one cut). By AI agents, Wed Nov 11 2026. No macro, syntax, notation, axiom, sorry.
-/
import Derived.Test.YtkifmdfmbmbdaaaChecked
import GoSem.Claim
import GoSem.ClaimJoined
import GoSem.ClaimMapViews
import Derived.JoinedTies
import Derived.KernelRfl
namespace Go.Proofs.Ytkifmdfmbmbdaaa
/- THE CELL 'sum', in the pinned program and in every row, IS THE sha256 OF THE DUMP (.gsa) THAT YtkifmdfmbmbdaaaProg.lean LOADS. Nothing in Lean hashes anything: it is a label: what it is worth is what the hold of that sum in a sandbox is worth. -/
noncomputable def Try.pinned : Pinned := { name := "ytkifmdfmbmbdaaa", sum := "fde6451ca62e15573511bb4cd213f43d25c043dded6c4b662fae8cb02af6a2ea", checked := Try.checked }
namespace Rows
def none {H : Type} : Left H := { results := [], args := [] }

/-- 'rostrumlaw07.DetectNone': WHATEVER THE INPUT: true; the input reads as it did. -/
def detectNoneSpec : ChangeSpec := { name := "detectNone", fn := fun _ => fun
  | [d1, d2] => { results := [.lit (.bool true)], args := [d1, d2] }
  | _ => none }
def detectNoneRow : OpenClaim := { program := "ytkifmdfmbmbdaaa", sum := "fde6451ca62e15573511bb4cd213f43d25c043dded6c4b662fae8cb02af6a2ea", func := "rostrum/rostrumlaw07.DetectNone", spec := "detectNone", unfollowed := true, recurses := true, apart := false }
def DetectNoneSaid : Prop := detectNoneRow.holds Try.pinned (OpenSpec.ofChange detectNoneSpec)

/-- ITS FALSE NEIGHBOUR: 'it returns false'. Refute it at one input. -/
def detectNoneWrong : ChangeSpec := { name := "detectNone", fn := fun _ => fun
  | [d1, d2] => { results := [.lit (.bool false)], args := [d1, d2] }
  | _ => none }
def DetectNoneWrongFalsely : Prop := detectNoneRow.holds Try.pinned (OpenSpec.ofChange detectNoneWrong)

/-- 'rostrumlaw07.DetectSelf': WHATEVER THE INPUT: true; the input reads as it did. -/
def detectSelfSpec : ChangeSpec := { name := "detectSelf", fn := fun _ => fun
  | [d1, d2, d3, d4] => { results := [.lit (.bool true)], args := [d1, d2, d3, d4] }
  | _ => none }
def detectSelfRow : OpenClaim := { program := "ytkifmdfmbmbdaaa", sum := "fde6451ca62e15573511bb4cd213f43d25c043dded6c4b662fae8cb02af6a2ea", func := "rostrum/rostrumlaw07.DetectSelf", spec := "detectSelf", unfollowed := true, recurses := true, apart := false }
def DetectSelfSaid : Prop := detectSelfRow.holds Try.pinned (OpenSpec.ofChange detectSelfSpec)

/-- ITS FALSE NEIGHBOUR: 'it returns false'. Refute it at one input. -/
def detectSelfWrong : ChangeSpec := { name := "detectSelf", fn := fun _ => fun
  | [d1, d2, d3, d4] => { results := [.lit (.bool false)], args := [d1, d2, d3, d4] }
  | _ => none }
def DetectSelfWrongFalsely : Prop := detectSelfRow.holds Try.pinned (OpenSpec.ofChange detectSelfWrong)

/-- 'rostrumlaw07.DetectGrows': WHATEVER THE INPUT: true; the input reads as it did. -/
def detectGrowsSpec : ChangeSpec := { name := "detectGrows", fn := fun _ => fun
  | [d1, d2, d3, d4] => { results := [.lit (.bool true)], args := [d1, d2, d3, d4] }
  | _ => none }
def detectGrowsRow : OpenClaim := { program := "ytkifmdfmbmbdaaa", sum := "fde6451ca62e15573511bb4cd213f43d25c043dded6c4b662fae8cb02af6a2ea", func := "rostrum/rostrumlaw07.DetectGrows", spec := "detectGrows", unfollowed := true, recurses := true, apart := false }
def DetectGrowsSaid : Prop := detectGrowsRow.holds Try.pinned (OpenSpec.ofChange detectGrowsSpec)

/-- ITS FALSE NEIGHBOUR: 'it returns false'. Refute it at one input. -/
def detectGrowsWrong : ChangeSpec := { name := "detectGrows", fn := fun _ => fun
  | [d1, d2, d3, d4] => { results := [.lit (.bool false)], args := [d1, d2, d3, d4] }
  | _ => none }
def DetectGrowsWrongFalsely : Prop := detectGrowsRow.holds Try.pinned (OpenSpec.ofChange detectGrowsWrong)

/-- 'rostrumlaw07.DetectSeldom': WHATEVER THE INPUT: true; the input reads as it did. -/
def detectSeldomSpec : ChangeSpec := { name := "detectSeldom", fn := fun _ => fun
  | [d1, d2] => { results := [.lit (.bool true)], args := [d1, d2] }
  | _ => none }
def detectSeldomRow : OpenClaim := { program := "ytkifmdfmbmbdaaa", sum := "fde6451ca62e15573511bb4cd213f43d25c043dded6c4b662fae8cb02af6a2ea", func := "rostrum/rostrumlaw07.DetectSeldom", spec := "detectSeldom", unfollowed := true, recurses := true, apart := false }
def DetectSeldomSaid : Prop := detectSeldomRow.holds Try.pinned (OpenSpec.ofChange detectSeldomSpec)

/-- ITS FALSE NEIGHBOUR: 'it returns false'. Refute it at one input. -/
def detectSeldomWrong : ChangeSpec := { name := "detectSeldom", fn := fun _ => fun
  | [d1, d2] => { results := [.lit (.bool false)], args := [d1, d2] }
  | _ => none }
def DetectSeldomWrongFalsely : Prop := detectSeldomRow.holds Try.pinned (OpenSpec.ofChange detectSeldomWrong)

/-- 'rostrumlaw07.DetectHeard': WHATEVER THE INPUT: true; the input reads as it did. -/
def detectHeardSpec : ChangeSpec := { name := "detectHeard", fn := fun _ => fun
  | [d1, d2] => { results := [.lit (.bool true)], args := [d1, d2] }
  | _ => none }
def detectHeardRow : OpenClaim := { program := "ytkifmdfmbmbdaaa", sum := "fde6451ca62e15573511bb4cd213f43d25c043dded6c4b662fae8cb02af6a2ea", func := "rostrum/rostrumlaw07.DetectHeard", spec := "detectHeard", unfollowed := true, recurses := true, apart := false }
def DetectHeardSaid : Prop := detectHeardRow.holds Try.pinned (OpenSpec.ofChange detectHeardSpec)

/-- ITS FALSE NEIGHBOUR: 'it returns false'. Refute it at one input. -/
def detectHeardWrong : ChangeSpec := { name := "detectHeard", fn := fun _ => fun
  | [d1, d2] => { results := [.lit (.bool false)], args := [d1, d2] }
  | _ => none }
def DetectHeardWrongFalsely : Prop := detectHeardRow.holds Try.pinned (OpenSpec.ofChange detectHeardWrong)

/- THE SECOND FORM. 'bulk': how many values and letters a reading holds, each counted each time it is reached (what is shared counts as often as it is met; a slice's spare places count too). A statement '..UptoSaid' is the law's where the arguments, and the package variables that the reading takes, are together of bulk at most 1048576: NARROWER than '..Said'. Prove '..Said' where nothing that the law and all that it calls make is longer than what came in: it says more and counts as full. Else prove '..UptoSaid'. A law counts once. -/
mutual
def uptoBulk {H : Type} : DataW H → Nat
  | .lit (.string bytes) => bytes.length + 1
  | .lit _ => 1
  | .nil => 1
  | .ptr d => uptoBulk d + 1
  | .slice elems spare => uptoBulkAll elems + uptoBulkAll spare + 1
  | .agg parts => uptoBulkAll parts + 1
  | .iface _ d => uptoBulk d + 1
  | .map entries => uptoBulkEntries entries + 1
  | .held _ => 1
def uptoBulkAll {H : Type} : List (DataW H) → Nat
  | [] => 0
  | d :: r => uptoBulk d + uptoBulkAll r
def uptoBulkEntries {H : Type} : List (Lit × DataW H) → Nat
  | [] => 0
  | x :: r => uptoBulkEntry x + uptoBulkEntries r
def uptoBulkEntry {H : Type} : Lit × DataW H → Nat
  | (.string bytes, d) => bytes.length + uptoBulk d + 1
  | (_, d) => uptoBulk d + 1
 end
def uptoSmall : (H : Type) → List (DataW H) → Bool := fun _ ds => decide (uptoBulkAll ds ≤ 1048576)
def OpenSpec.upto (s : _root_.Go.ChangeSpec) : _root_.Go.OpenSpec := { _root_.Go.OpenSpec.ofChange s with cond := some uptoSmall }

/-- 'rostrumlaw07.DetectNone', WHERE WHAT IT READS IS OF BULK AT MOST 1048576: true; the input reads as it did. -/
def detectNoneUptoRow : OpenClaim := { program := "ytkifmdfmbmbdaaa", sum := "fde6451ca62e15573511bb4cd213f43d25c043dded6c4b662fae8cb02af6a2ea", func := "rostrum/rostrumlaw07.DetectNone", spec := "detectNone", unfollowed := true, recurses := true, apart := false, narrowed := true }
def DetectNoneUptoSaid : Prop := detectNoneUptoRow.holds Try.pinned (OpenSpec.upto detectNoneSpec)

/-- 'rostrumlaw07.DetectSelf', WHERE WHAT IT READS IS OF BULK AT MOST 1048576: true; the input reads as it did. -/
def detectSelfUptoRow : OpenClaim := { program := "ytkifmdfmbmbdaaa", sum := "fde6451ca62e15573511bb4cd213f43d25c043dded6c4b662fae8cb02af6a2ea", func := "rostrum/rostrumlaw07.DetectSelf", spec := "detectSelf", unfollowed := true, recurses := true, apart := false, narrowed := true }
def DetectSelfUptoSaid : Prop := detectSelfUptoRow.holds Try.pinned (OpenSpec.upto detectSelfSpec)

/-- 'rostrumlaw07.DetectGrows', WHERE WHAT IT READS IS OF BULK AT MOST 1048576: true; the input reads as it did. -/
def detectGrowsUptoRow : OpenClaim := { program := "ytkifmdfmbmbdaaa", sum := "fde6451ca62e15573511bb4cd213f43d25c043dded6c4b662fae8cb02af6a2ea", func := "rostrum/rostrumlaw07.DetectGrows", spec := "detectGrows", unfollowed := true, recurses := true, apart := false, narrowed := true }
def DetectGrowsUptoSaid : Prop := detectGrowsUptoRow.holds Try.pinned (OpenSpec.upto detectGrowsSpec)

/-- 'rostrumlaw07.DetectSeldom', WHERE WHAT IT READS IS OF BULK AT MOST 1048576: true; the input reads as it did. -/
def detectSeldomUptoRow : OpenClaim := { program := "ytkifmdfmbmbdaaa", sum := "fde6451ca62e15573511bb4cd213f43d25c043dded6c4b662fae8cb02af6a2ea", func := "rostrum/rostrumlaw07.DetectSeldom", spec := "detectSeldom", unfollowed := true, recurses := true, apart := false, narrowed := true }
def DetectSeldomUptoSaid : Prop := detectSeldomUptoRow.holds Try.pinned (OpenSpec.upto detectSeldomSpec)

/-- 'rostrumlaw07.DetectHeard', WHERE WHAT IT READS IS OF BULK AT MOST 1048576: true; the input reads as it did. -/
def detectHeardUptoRow : OpenClaim := { program := "ytkifmdfmbmbdaaa", sum := "fde6451ca62e15573511bb4cd213f43d25c043dded6c4b662fae8cb02af6a2ea", func := "rostrum/rostrumlaw07.DetectHeard", spec := "detectHeard", unfollowed := true, recurses := true, apart := false, narrowed := true }
def DetectHeardUptoSaid : Prop := detectHeardUptoRow.holds Try.pinned (OpenSpec.upto detectHeardSpec)

end Rows
end Go.Proofs.Ytkifmdfmbmbdaaa
