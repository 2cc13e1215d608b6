/-
  No cell of these rows narrows 'for every input' (looked for: loops, veiled, ifaces, maps, wideKeys, modest, calm, conditions, laid).
  DERIVED. THE GIVEN ROWS OF THIS SEAT. 8 by the template 'for every input the law returns true; each argument reads behind the call as it read before'; 0 by the template 'total and deterministic' (their statements: YtmaiiphfiecblaaTotals.lean).
  GIVEN WITH THE SEED: the statements are not yours to turn. If you find one false, say at which input.
  Laid BY PROGRAM, IN A SANDBOX (cutbox-rows.mjs): the forced cells as the released guide's own fill.sh prints them over the translation 7ea2f6e84a9bfc2f… (all of the seat's roots in one cut). By AI agents, Wed Nov 11 2026. No macro, syntax, notation, axiom, sorry.
-/
import Derived.Test.YtmaiiphfiecblaaChecked
import GoSem.Claim
import GoSem.ClaimJoined
import GoSem.ClaimMapViews
import Derived.JoinedTies
import Derived.KernelRfl
namespace Go.Proofs.Ytmaiiphfiecblaa
/- THE CELL 'sum', in the pinned program and in every row, IS THE sha256 OF THE DUMP (.gsa) THAT YtmaiiphfiecblaaProg.lean LOADS. Nothing in Lean hashes anything: it is a label: what it is worth is what the hold of that sum in a sandbox is worth. -/
noncomputable def Try.pinned : Pinned := { name := "ytmaiiphfiecblaa", sum := "7ea2f6e84a9bfc2f0adf9d3054c3e9d5ead9b48ad439d06955353eed0d15bae7", checked := Try.checked }
namespace Rows
def none {H : Type} : Left H := { results := [], args := [] }

/-- 'rostrumlaw01.CrcSums': WHATEVER THE INPUT: true; the input reads as it did. -/
def crcSumsSpec : ChangeSpec := { name := "crcSums", fn := fun _ => fun
  | [d1, d2, d3] => { results := [.lit (.bool true)], args := [d1, d2, d3] }
  | _ => none }
def crcSumsRow : OpenClaim := { program := "ytmaiiphfiecblaa", sum := "7ea2f6e84a9bfc2f0adf9d3054c3e9d5ead9b48ad439d06955353eed0d15bae7", func := "rostrum/rostrumlaw01.CrcSums", spec := "crcSums", unfollowed := true, recurses := true, apart := false }
def CrcSumsSaid : Prop := crcSumsRow.holds Try.pinned (OpenSpec.ofChange crcSumsSpec)

/-- ITS FALSE NEIGHBOUR: 'it returns false'. Refute it at one input. -/
def crcSumsWrong : ChangeSpec := { name := "crcSums", fn := fun _ => fun
  | [d1, d2, d3] => { results := [.lit (.bool false)], args := [d1, d2, d3] }
  | _ => none }
def CrcSumsWrongFalsely : Prop := crcSumsRow.holds Try.pinned (OpenSpec.ofChange crcSumsWrong)

/-- 'rostrumlaw01.CrcParts': WHATEVER THE INPUT: true; the input reads as it did. -/
def crcPartsSpec : ChangeSpec := { name := "crcParts", fn := fun _ => fun
  | [d1, d2] => { results := [.lit (.bool true)], args := [d1, d2] }
  | _ => none }
def crcPartsRow : OpenClaim := { program := "ytmaiiphfiecblaa", sum := "7ea2f6e84a9bfc2f0adf9d3054c3e9d5ead9b48ad439d06955353eed0d15bae7", func := "rostrum/rostrumlaw01.CrcParts", spec := "crcParts", unfollowed := true, recurses := true, apart := false }
def CrcPartsSaid : Prop := crcPartsRow.holds Try.pinned (OpenSpec.ofChange crcPartsSpec)

/-- ITS FALSE NEIGHBOUR: 'it returns false'. Refute it at one input. -/
def crcPartsWrong : ChangeSpec := { name := "crcParts", fn := fun _ => fun
  | [d1, d2] => { results := [.lit (.bool false)], args := [d1, d2] }
  | _ => none }
def CrcPartsWrongFalsely : Prop := crcPartsRow.holds Try.pinned (OpenSpec.ofChange crcPartsWrong)

/-- 'rostrumlaw01.CrcSeals': WHATEVER THE INPUT: true; the input reads as it did. -/
def crcSealsSpec : ChangeSpec := { name := "crcSeals", fn := fun _ => fun
  | [d1, d2] => { results := [.lit (.bool true)], args := [d1, d2] }
  | _ => none }
def crcSealsRow : OpenClaim := { program := "ytmaiiphfiecblaa", sum := "7ea2f6e84a9bfc2f0adf9d3054c3e9d5ead9b48ad439d06955353eed0d15bae7", func := "rostrum/rostrumlaw01.CrcSeals", spec := "crcSeals", unfollowed := true, recurses := true, apart := false }
def CrcSealsSaid : Prop := crcSealsRow.holds Try.pinned (OpenSpec.ofChange crcSealsSpec)

/-- ITS FALSE NEIGHBOUR: 'it returns false'. Refute it at one input. -/
def crcSealsWrong : ChangeSpec := { name := "crcSeals", fn := fun _ => fun
  | [d1, d2] => { results := [.lit (.bool false)], args := [d1, d2] }
  | _ => none }
def CrcSealsWrongFalsely : Prop := crcSealsRow.holds Try.pinned (OpenSpec.ofChange crcSealsWrong)

/-- 'rostrumlaw01.CrcBack': WHATEVER THE INPUT: true; the input reads as it did. -/
def crcBackSpec : ChangeSpec := { name := "crcBack", fn := fun _ => fun
  | [d1, d2] => { results := [.lit (.bool true)], args := [d1, d2] }
  | _ => none }
def crcBackRow : OpenClaim := { program := "ytmaiiphfiecblaa", sum := "7ea2f6e84a9bfc2f0adf9d3054c3e9d5ead9b48ad439d06955353eed0d15bae7", func := "rostrum/rostrumlaw01.CrcBack", spec := "crcBack", unfollowed := true, recurses := true, apart := false }
def CrcBackSaid : Prop := crcBackRow.holds Try.pinned (OpenSpec.ofChange crcBackSpec)

/-- ITS FALSE NEIGHBOUR: 'it returns false'. Refute it at one input. -/
def crcBackWrong : ChangeSpec := { name := "crcBack", fn := fun _ => fun
  | [d1, d2] => { results := [.lit (.bool false)], args := [d1, d2] }
  | _ => none }
def CrcBackWrongFalsely : Prop := crcBackRow.holds Try.pinned (OpenSpec.ofChange crcBackWrong)

/-- 'rostrumlaw01.CrcChanges': WHATEVER THE INPUT: true; the input reads as it did. -/
def crcChangesSpec : ChangeSpec := { name := "crcChanges", fn := fun _ => fun
  | [d1, d2, d3] => { results := [.lit (.bool true)], args := [d1, d2, d3] }
  | _ => none }
def crcChangesRow : OpenClaim := { program := "ytmaiiphfiecblaa", sum := "7ea2f6e84a9bfc2f0adf9d3054c3e9d5ead9b48ad439d06955353eed0d15bae7", func := "rostrum/rostrumlaw01.CrcChanges", spec := "crcChanges", unfollowed := true, recurses := true, apart := false }
def CrcChangesSaid : Prop := crcChangesRow.holds Try.pinned (OpenSpec.ofChange crcChangesSpec)

/-- ITS FALSE NEIGHBOUR: 'it returns false'. Refute it at one input. -/
def crcChangesWrong : ChangeSpec := { name := "crcChanges", fn := fun _ => fun
  | [d1, d2, d3] => { results := [.lit (.bool false)], args := [d1, d2, d3] }
  | _ => none }
def CrcChangesWrongFalsely : Prop := crcChangesRow.holds Try.pinned (OpenSpec.ofChange crcChangesWrong)

/-- 'rostrumlaw01.CrcTwice': WHATEVER THE INPUT: true; the input reads as it did. -/
def crcTwiceSpec : ChangeSpec := { name := "crcTwice", fn := fun _ => fun
  | [d1, d2, d3] => { results := [.lit (.bool true)], args := [d1, d2, d3] }
  | _ => none }
def crcTwiceRow : OpenClaim := { program := "ytmaiiphfiecblaa", sum := "7ea2f6e84a9bfc2f0adf9d3054c3e9d5ead9b48ad439d06955353eed0d15bae7", func := "rostrum/rostrumlaw01.CrcTwice", spec := "crcTwice", unfollowed := true, recurses := true, apart := false }
def CrcTwiceSaid : Prop := crcTwiceRow.holds Try.pinned (OpenSpec.ofChange crcTwiceSpec)

/-- ITS FALSE NEIGHBOUR: 'it returns false'. Refute it at one input. -/
def crcTwiceWrong : ChangeSpec := { name := "crcTwice", fn := fun _ => fun
  | [d1, d2, d3] => { results := [.lit (.bool false)], args := [d1, d2, d3] }
  | _ => none }
def CrcTwiceWrongFalsely : Prop := crcTwiceRow.holds Try.pinned (OpenSpec.ofChange crcTwiceWrong)

/-- 'rostrumlaw01.CrcBit': WHATEVER THE INPUT: true; the input reads as it did. -/
def crcBitSpec : ChangeSpec := { name := "crcBit", fn := fun _ => fun
  | [d1, d2] => { results := [.lit (.bool true)], args := [d1, d2] }
  | _ => none }
def crcBitRow : OpenClaim := { program := "ytmaiiphfiecblaa", sum := "7ea2f6e84a9bfc2f0adf9d3054c3e9d5ead9b48ad439d06955353eed0d15bae7", func := "rostrum/rostrumlaw01.CrcBit", spec := "crcBit", unfollowed := true, recurses := true, apart := false }
def CrcBitSaid : Prop := crcBitRow.holds Try.pinned (OpenSpec.ofChange crcBitSpec)

/-- ITS FALSE NEIGHBOUR: 'it returns false'. Refute it at one input. -/
def crcBitWrong : ChangeSpec := { name := "crcBit", fn := fun _ => fun
  | [d1, d2] => { results := [.lit (.bool false)], args := [d1, d2] }
  | _ => none }
def CrcBitWrongFalsely : Prop := crcBitRow.holds Try.pinned (OpenSpec.ofChange crcBitWrong)

/-- 'rostrumlaw01.CrcFinds': WHATEVER THE INPUT: true; the input reads as it did. -/
def crcFindsSpec : ChangeSpec := { name := "crcFinds", fn := fun _ => fun
  | [d1, d2, d3] => { results := [.lit (.bool true)], args := [d1, d2, d3] }
  | _ => none }
def crcFindsRow : OpenClaim := { program := "ytmaiiphfiecblaa", sum := "7ea2f6e84a9bfc2f0adf9d3054c3e9d5ead9b48ad439d06955353eed0d15bae7", func := "rostrum/rostrumlaw01.CrcFinds", spec := "crcFinds", unfollowed := true, recurses := true, apart := false }
def CrcFindsSaid : Prop := crcFindsRow.holds Try.pinned (OpenSpec.ofChange crcFindsSpec)

/-- ITS FALSE NEIGHBOUR: 'it returns false'. Refute it at one input. -/
def crcFindsWrong : ChangeSpec := { name := "crcFinds", fn := fun _ => fun
  | [d1, d2, d3] => { results := [.lit (.bool false)], args := [d1, d2, d3] }
  | _ => none }
def CrcFindsWrongFalsely : Prop := crcFindsRow.holds Try.pinned (OpenSpec.ofChange crcFindsWrong)

/- THE SECOND FORM. 'bulk': how many values and letters a reading holds, each counted each time it is reached (what is shared counts as often as it is met; a slice's spare places count too). A statement '..UptoSaid' is the law's where the arguments, and the package variables that the reading takes, are together of bulk at most 1048576: NARROWER than '..Said'. Prove '..Said' where nothing that the law and all that it calls make is longer than what came in: it says more and counts as full. Else prove '..UptoSaid'. A law counts once. -/
mutual
def uptoBulk {H : Type} : DataW H → Nat
  | .lit (.string bytes) => bytes.length + 1
  | .lit _ => 1
  | .nil => 1
  | .ptr d => uptoBulk d + 1
  | .slice elems spare => uptoBulkAll elems + uptoBulkAll spare + 1
  | .agg parts => uptoBulkAll parts + 1
  | .iface _ d => uptoBulk d + 1
  | .map entries => uptoBulkEntries entries + 1
  | .held _ => 1
def uptoBulkAll {H : Type} : List (DataW H) → Nat
  | [] => 0
  | d :: r => uptoBulk d + uptoBulkAll r
def uptoBulkEntries {H : Type} : List (Lit × DataW H) → Nat
  | [] => 0
  | x :: r => uptoBulkEntry x + uptoBulkEntries r
def uptoBulkEntry {H : Type} : Lit × DataW H → Nat
  | (.string bytes, d) => bytes.length + uptoBulk d + 1
  | (_, d) => uptoBulk d + 1
 end
def uptoSmall : (H : Type) → List (DataW H) → Bool := fun _ ds => decide (uptoBulkAll ds ≤ 1048576)
def OpenSpec.upto (s : _root_.Go.ChangeSpec) : _root_.Go.OpenSpec := { _root_.Go.OpenSpec.ofChange s with cond := some uptoSmall }

/-- 'rostrumlaw01.CrcSums', WHERE WHAT IT READS IS OF BULK AT MOST 1048576: true; the input reads as it did. -/
def crcSumsUptoRow : OpenClaim := { program := "ytmaiiphfiecblaa", sum := "7ea2f6e84a9bfc2f0adf9d3054c3e9d5ead9b48ad439d06955353eed0d15bae7", func := "rostrum/rostrumlaw01.CrcSums", spec := "crcSums", unfollowed := true, recurses := true, apart := false, narrowed := true }
def CrcSumsUptoSaid : Prop := crcSumsUptoRow.holds Try.pinned (OpenSpec.upto crcSumsSpec)

/-- 'rostrumlaw01.CrcParts', WHERE WHAT IT READS IS OF BULK AT MOST 1048576: true; the input reads as it did. -/
def crcPartsUptoRow : OpenClaim := { program := "ytmaiiphfiecblaa", sum := "7ea2f6e84a9bfc2f0adf9d3054c3e9d5ead9b48ad439d06955353eed0d15bae7", func := "rostrum/rostrumlaw01.CrcParts", spec := "crcParts", unfollowed := true, recurses := true, apart := false, narrowed := true }
def CrcPartsUptoSaid : Prop := crcPartsUptoRow.holds Try.pinned (OpenSpec.upto crcPartsSpec)

/-- 'rostrumlaw01.CrcSeals', WHERE WHAT IT READS IS OF BULK AT MOST 1048576: true; the input reads as it did. -/
def crcSealsUptoRow : OpenClaim := { program := "ytmaiiphfiecblaa", sum := "7ea2f6e84a9bfc2f0adf9d3054c3e9d5ead9b48ad439d06955353eed0d15bae7", func := "rostrum/rostrumlaw01.CrcSeals", spec := "crcSeals", unfollowed := true, recurses := true, apart := false, narrowed := true }
def CrcSealsUptoSaid : Prop := crcSealsUptoRow.holds Try.pinned (OpenSpec.upto crcSealsSpec)

/-- 'rostrumlaw01.CrcBack', WHERE WHAT IT READS IS OF BULK AT MOST 1048576: true; the input reads as it did. -/
def crcBackUptoRow : OpenClaim := { program := "ytmaiiphfiecblaa", sum := "7ea2f6e84a9bfc2f0adf9d3054c3e9d5ead9b48ad439d06955353eed0d15bae7", func := "rostrum/rostrumlaw01.CrcBack", spec := "crcBack", unfollowed := true, recurses := true, apart := false, narrowed := true }
def CrcBackUptoSaid : Prop := crcBackUptoRow.holds Try.pinned (OpenSpec.upto crcBackSpec)

/-- 'rostrumlaw01.CrcChanges', WHERE WHAT IT READS IS OF BULK AT MOST 1048576: true; the input reads as it did. -/
def crcChangesUptoRow : OpenClaim := { program := "ytmaiiphfiecblaa", sum := "7ea2f6e84a9bfc2f0adf9d3054c3e9d5ead9b48ad439d06955353eed0d15bae7", func := "rostrum/rostrumlaw01.CrcChanges", spec := "crcChanges", unfollowed := true, recurses := true, apart := false, narrowed := true }
def CrcChangesUptoSaid : Prop := crcChangesUptoRow.holds Try.pinned (OpenSpec.upto crcChangesSpec)

/-- 'rostrumlaw01.CrcTwice', WHERE WHAT IT READS IS OF BULK AT MOST 1048576: true; the input reads as it did. -/
def crcTwiceUptoRow : OpenClaim := { program := "ytmaiiphfiecblaa", sum := "7ea2f6e84a9bfc2f0adf9d3054c3e9d5ead9b48ad439d06955353eed0d15bae7", func := "rostrum/rostrumlaw01.CrcTwice", spec := "crcTwice", unfollowed := true, recurses := true, apart := false, narrowed := true }
def CrcTwiceUptoSaid : Prop := crcTwiceUptoRow.holds Try.pinned (OpenSpec.upto crcTwiceSpec)

/-- 'rostrumlaw01.CrcBit', WHERE WHAT IT READS IS OF BULK AT MOST 1048576: true; the input reads as it did. -/
def crcBitUptoRow : OpenClaim := { program := "ytmaiiphfiecblaa", sum := "7ea2f6e84a9bfc2f0adf9d3054c3e9d5ead9b48ad439d06955353eed0d15bae7", func := "rostrum/rostrumlaw01.CrcBit", spec := "crcBit", unfollowed := true, recurses := true, apart := false, narrowed := true }
def CrcBitUptoSaid : Prop := crcBitUptoRow.holds Try.pinned (OpenSpec.upto crcBitSpec)

/-- 'rostrumlaw01.CrcFinds', WHERE WHAT IT READS IS OF BULK AT MOST 1048576: true; the input reads as it did. -/
def crcFindsUptoRow : OpenClaim := { program := "ytmaiiphfiecblaa", sum := "7ea2f6e84a9bfc2f0adf9d3054c3e9d5ead9b48ad439d06955353eed0d15bae7", func := "rostrum/rostrumlaw01.CrcFinds", spec := "crcFinds", unfollowed := true, recurses := true, apart := false, narrowed := true }
def CrcFindsUptoSaid : Prop := crcFindsUptoRow.holds Try.pinned (OpenSpec.upto crcFindsSpec)

end Rows
end Go.Proofs.Ytmaiiphfiecblaa
