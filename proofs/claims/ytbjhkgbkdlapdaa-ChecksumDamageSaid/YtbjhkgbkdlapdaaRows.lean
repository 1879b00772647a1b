/-
  No cell of these rows narrows 'for every input' (looked for: loops, veiled, ifaces, maps, wideKeys, modest, calm, conditions, laid).
  DERIVED. THE GIVEN ROWS OF THIS SEAT. 10 by the template 'for every input the law returns true; each argument reads behind the call as it read before'; 0 by the template 'total and deterministic' (their statements: YtbjhkgbkdlapdaaTotals.lean).
  GIVEN WITH THE SEED: the statements are not yours to turn. If you find one false, say at which input.
  Laid BY PROGRAM, IN A SANDBOX (cutbox-rows.mjs): the forced cells as the released guide's own fill.sh prints them over the translation 851d97982d44958f… (all of the seat's roots in one cut). By AI agents, Wed Nov 11 2026. No macro, syntax, notation, axiom, sorry.
-/
import Derived.Test.YtbjhkgbkdlapdaaChecked
import GoSem.Claim
import GoSem.ClaimJoined
import GoSem.ClaimMapViews
import Derived.JoinedTies
import Derived.KernelRfl
namespace Go.Proofs.Ytbjhkgbkdlapdaa
/- THE CELL 'sum', in the pinned program and in every row, IS THE sha256 OF THE DUMP (.gsa) THAT YtbjhkgbkdlapdaaProg.lean LOADS. Nothing in Lean hashes anything: it is a label: what it is worth is what the hold of that sum in a sandbox is worth. -/
noncomputable def Try.pinned : Pinned := { name := "ytbjhkgbkdlapdaa", sum := "851d97982d44958f84b17c07ce3c6b5a9c5ff08a8d1657b4f7df2bad6907fbf5", checked := Try.checked }
namespace Rows
def none {H : Type} : Left H := { results := [], args := [] }

/-- 'nurserylaw02.ChecksumByte': WHATEVER THE INPUT: true; the input reads as it did. -/
def checksumByteSpec : ChangeSpec := { name := "checksumByte", fn := fun _ => fun
  | [d1, d2, d3] => { results := [.lit (.bool true)], args := [d1, d2, d3] }
  | _ => none }
def checksumByteRow : OpenClaim := { program := "ytbjhkgbkdlapdaa", sum := "851d97982d44958f84b17c07ce3c6b5a9c5ff08a8d1657b4f7df2bad6907fbf5", func := "nursery/nurserylaw02.ChecksumByte", spec := "checksumByte", unfollowed := true, recurses := true, apart := false }
def ChecksumByteSaid : Prop := checksumByteRow.holds Try.pinned (OpenSpec.ofChange checksumByteSpec)

/-- ITS FALSE NEIGHBOUR: 'it returns false'. Refute it at one input. -/
def checksumByteWrong : ChangeSpec := { name := "checksumByte", fn := fun _ => fun
  | [d1, d2, d3] => { results := [.lit (.bool false)], args := [d1, d2, d3] }
  | _ => none }
def ChecksumByteWrongFalsely : Prop := checksumByteRow.holds Try.pinned (OpenSpec.ofChange checksumByteWrong)

/-- 'nurserylaw02.ChecksumExchange': WHATEVER THE INPUT: true; the input reads as it did. -/
def checksumExchangeSpec : ChangeSpec := { name := "checksumExchange", fn := fun _ => fun
  | [d1, d2, d3] => { results := [.lit (.bool true)], args := [d1, d2, d3] }
  | _ => none }
def checksumExchangeRow : OpenClaim := { program := "ytbjhkgbkdlapdaa", sum := "851d97982d44958f84b17c07ce3c6b5a9c5ff08a8d1657b4f7df2bad6907fbf5", func := "nursery/nurserylaw02.ChecksumExchange", spec := "checksumExchange", unfollowed := true, recurses := true, apart := false }
def ChecksumExchangeSaid : Prop := checksumExchangeRow.holds Try.pinned (OpenSpec.ofChange checksumExchangeSpec)

/-- ITS FALSE NEIGHBOUR: 'it returns false'. Refute it at one input. -/
def checksumExchangeWrong : ChangeSpec := { name := "checksumExchange", fn := fun _ => fun
  | [d1, d2, d3] => { results := [.lit (.bool false)], args := [d1, d2, d3] }
  | _ => none }
def ChecksumExchangeWrongFalsely : Prop := checksumExchangeRow.holds Try.pinned (OpenSpec.ofChange checksumExchangeWrong)

/-- 'nurserylaw02.ChecksumSum': WHATEVER THE INPUT: true; the input reads as it did. -/
def checksumSumSpec : ChangeSpec := { name := "checksumSum", fn := fun _ => fun
  | [d1, d2, d3, d4] => { results := [.lit (.bool true)], args := [d1, d2, d3, d4] }
  | _ => none }
def checksumSumRow : OpenClaim := { program := "ytbjhkgbkdlapdaa", sum := "851d97982d44958f84b17c07ce3c6b5a9c5ff08a8d1657b4f7df2bad6907fbf5", func := "nursery/nurserylaw02.ChecksumSum", spec := "checksumSum", unfollowed := true, recurses := true, apart := false }
def ChecksumSumSaid : Prop := checksumSumRow.holds Try.pinned (OpenSpec.ofChange checksumSumSpec)

/-- ITS FALSE NEIGHBOUR: 'it returns false'. Refute it at one input. -/
def checksumSumWrong : ChangeSpec := { name := "checksumSum", fn := fun _ => fun
  | [d1, d2, d3, d4] => { results := [.lit (.bool false)], args := [d1, d2, d3, d4] }
  | _ => none }
def ChecksumSumWrongFalsely : Prop := checksumSumRow.holds Try.pinned (OpenSpec.ofChange checksumSumWrong)

/-- 'nurserylaw02.ChecksumConcatenation': WHATEVER THE INPUT: true; the input reads as it did. -/
def checksumConcatenationSpec : ChangeSpec := { name := "checksumConcatenation", fn := fun _ => fun
  | [d1, d2] => { results := [.lit (.bool true)], args := [d1, d2] }
  | _ => none }
def checksumConcatenationRow : OpenClaim := { program := "ytbjhkgbkdlapdaa", sum := "851d97982d44958f84b17c07ce3c6b5a9c5ff08a8d1657b4f7df2bad6907fbf5", func := "nursery/nurserylaw02.ChecksumConcatenation", spec := "checksumConcatenation", unfollowed := true, recurses := true, apart := false }
def ChecksumConcatenationSaid : Prop := checksumConcatenationRow.holds Try.pinned (OpenSpec.ofChange checksumConcatenationSpec)

/-- ITS FALSE NEIGHBOUR: 'it returns false'. Refute it at one input. -/
def checksumConcatenationWrong : ChangeSpec := { name := "checksumConcatenation", fn := fun _ => fun
  | [d1, d2] => { results := [.lit (.bool false)], args := [d1, d2] }
  | _ => none }
def ChecksumConcatenationWrongFalsely : Prop := checksumConcatenationRow.holds Try.pinned (OpenSpec.ofChange checksumConcatenationWrong)

/-- 'nurserylaw02.ChecksumFrame': WHATEVER THE INPUT: true; the input reads as it did. -/
def checksumFrameSpec : ChangeSpec := { name := "checksumFrame", fn := fun _ => fun
  | [d1, d2] => { results := [.lit (.bool true)], args := [d1, d2] }
  | _ => none }
def checksumFrameRow : OpenClaim := { program := "ytbjhkgbkdlapdaa", sum := "851d97982d44958f84b17c07ce3c6b5a9c5ff08a8d1657b4f7df2bad6907fbf5", func := "nursery/nurserylaw02.ChecksumFrame", spec := "checksumFrame", unfollowed := true, recurses := true, apart := false }
def ChecksumFrameSaid : Prop := checksumFrameRow.holds Try.pinned (OpenSpec.ofChange checksumFrameSpec)

/-- ITS FALSE NEIGHBOUR: 'it returns false'. Refute it at one input. -/
def checksumFrameWrong : ChangeSpec := { name := "checksumFrame", fn := fun _ => fun
  | [d1, d2] => { results := [.lit (.bool false)], args := [d1, d2] }
  | _ => none }
def ChecksumFrameWrongFalsely : Prop := checksumFrameRow.holds Try.pinned (OpenSpec.ofChange checksumFrameWrong)

/-- 'nurserylaw02.ChecksumRoundTrip': WHATEVER THE INPUT: true; the input reads as it did. -/
def checksumRoundTripSpec : ChangeSpec := { name := "checksumRoundTrip", fn := fun _ => fun
  | [d1, d2] => { results := [.lit (.bool true)], args := [d1, d2] }
  | _ => none }
def checksumRoundTripRow : OpenClaim := { program := "ytbjhkgbkdlapdaa", sum := "851d97982d44958f84b17c07ce3c6b5a9c5ff08a8d1657b4f7df2bad6907fbf5", func := "nursery/nurserylaw02.ChecksumRoundTrip", spec := "checksumRoundTrip", unfollowed := true, recurses := true, apart := false }
def ChecksumRoundTripSaid : Prop := checksumRoundTripRow.holds Try.pinned (OpenSpec.ofChange checksumRoundTripSpec)

/-- ITS FALSE NEIGHBOUR: 'it returns false'. Refute it at one input. -/
def checksumRoundTripWrong : ChangeSpec := { name := "checksumRoundTrip", fn := fun _ => fun
  | [d1, d2] => { results := [.lit (.bool false)], args := [d1, d2] }
  | _ => none }
def ChecksumRoundTripWrongFalsely : Prop := checksumRoundTripRow.holds Try.pinned (OpenSpec.ofChange checksumRoundTripWrong)

/-- 'nurserylaw02.ChecksumCanonical': WHATEVER THE INPUT: true; the input reads as it did. -/
def checksumCanonicalSpec : ChangeSpec := { name := "checksumCanonical", fn := fun _ => fun
  | [d] => { results := [.lit (.bool true)], args := [d] }
  | _ => none }
def checksumCanonicalRow : OpenClaim := { program := "ytbjhkgbkdlapdaa", sum := "851d97982d44958f84b17c07ce3c6b5a9c5ff08a8d1657b4f7df2bad6907fbf5", func := "nursery/nurserylaw02.ChecksumCanonical", spec := "checksumCanonical", unfollowed := true, recurses := true, apart := false }
def ChecksumCanonicalSaid : Prop := checksumCanonicalRow.holds Try.pinned (OpenSpec.ofChange checksumCanonicalSpec)

/-- ITS FALSE NEIGHBOUR: 'it returns false'. Refute it at one input. -/
def checksumCanonicalWrong : ChangeSpec := { name := "checksumCanonical", fn := fun _ => fun
  | [d] => { results := [.lit (.bool false)], args := [d] }
  | _ => none }
def ChecksumCanonicalWrongFalsely : Prop := checksumCanonicalRow.holds Try.pinned (OpenSpec.ofChange checksumCanonicalWrong)

/-- 'nurserylaw02.ChecksumDamage': WHATEVER THE INPUT: true; the input reads as it did. -/
def checksumDamageSpec : ChangeSpec := { name := "checksumDamage", fn := fun _ => fun
  | [d1, d2, d3] => { results := [.lit (.bool true)], args := [d1, d2, d3] }
  | _ => none }
def checksumDamageRow : OpenClaim := { program := "ytbjhkgbkdlapdaa", sum := "851d97982d44958f84b17c07ce3c6b5a9c5ff08a8d1657b4f7df2bad6907fbf5", func := "nursery/nurserylaw02.ChecksumDamage", spec := "checksumDamage", unfollowed := true, recurses := true, apart := false }
def ChecksumDamageSaid : Prop := checksumDamageRow.holds Try.pinned (OpenSpec.ofChange checksumDamageSpec)

/-- ITS FALSE NEIGHBOUR: 'it returns false'. Refute it at one input. -/
def checksumDamageWrong : ChangeSpec := { name := "checksumDamage", fn := fun _ => fun
  | [d1, d2, d3] => { results := [.lit (.bool false)], args := [d1, d2, d3] }
  | _ => none }
def ChecksumDamageWrongFalsely : Prop := checksumDamageRow.holds Try.pinned (OpenSpec.ofChange checksumDamageWrong)

/-- 'nurserylaw02.ChecksumShort': WHATEVER THE INPUT: true; the input reads as it did. -/
def checksumShortSpec : ChangeSpec := { name := "checksumShort", fn := fun _ => fun
  | [d1, d2] => { results := [.lit (.bool true)], args := [d1, d2] }
  | _ => none }
def checksumShortRow : OpenClaim := { program := "ytbjhkgbkdlapdaa", sum := "851d97982d44958f84b17c07ce3c6b5a9c5ff08a8d1657b4f7df2bad6907fbf5", func := "nursery/nurserylaw02.ChecksumShort", spec := "checksumShort", unfollowed := true, recurses := true, apart := false }
def ChecksumShortSaid : Prop := checksumShortRow.holds Try.pinned (OpenSpec.ofChange checksumShortSpec)

/-- ITS FALSE NEIGHBOUR: 'it returns false'. Refute it at one input. -/
def checksumShortWrong : ChangeSpec := { name := "checksumShort", fn := fun _ => fun
  | [d1, d2] => { results := [.lit (.bool false)], args := [d1, d2] }
  | _ => none }
def ChecksumShortWrongFalsely : Prop := checksumShortRow.holds Try.pinned (OpenSpec.ofChange checksumShortWrong)

/-- 'nurserylaw02.ChecksumLong': WHATEVER THE INPUT: true; the input reads as it did. -/
def checksumLongSpec : ChangeSpec := { name := "checksumLong", fn := fun _ => fun
  | [d1, d2] => { results := [.lit (.bool true)], args := [d1, d2] }
  | _ => none }
def checksumLongRow : OpenClaim := { program := "ytbjhkgbkdlapdaa", sum := "851d97982d44958f84b17c07ce3c6b5a9c5ff08a8d1657b4f7df2bad6907fbf5", func := "nursery/nurserylaw02.ChecksumLong", spec := "checksumLong", inPlace := ["internal/abi.NoEscape", "internal/bytealg.MakeNoZero"], unfollowed := true, recurses := true, apart := false }
def ChecksumLongSaid : Prop := checksumLongRow.holds Try.pinned (OpenSpec.ofChange checksumLongSpec)

/-- ITS FALSE NEIGHBOUR: 'it returns false'. Refute it at one input. -/
def checksumLongWrong : ChangeSpec := { name := "checksumLong", fn := fun _ => fun
  | [d1, d2] => { results := [.lit (.bool false)], args := [d1, d2] }
  | _ => none }
def ChecksumLongWrongFalsely : Prop := checksumLongRow.holds Try.pinned (OpenSpec.ofChange checksumLongWrong)

/- THE SECOND FORM. 'bulk': how many values and letters a reading holds, each counted each time it is reached (what is shared counts as often as it is met; a slice's spare places count too). A statement '..UptoSaid' is the law's where the arguments, and the package variables that the reading takes, are together of bulk at most 1048576: NARROWER than '..Said'. Prove '..Said' where nothing that the law and all that it calls make is longer than what came in: it says more and counts as full. Else prove '..UptoSaid'. A law counts once. -/
mutual
def uptoBulk {H : Type} : DataW H → Nat
  | .lit (.string bytes) => bytes.length + 1
  | .lit _ => 1
  | .nil => 1
  | .ptr d => uptoBulk d + 1
  | .slice elems spare => uptoBulkAll elems + uptoBulkAll spare + 1
  | .agg parts => uptoBulkAll parts + 1
  | .iface _ d => uptoBulk d + 1
  | .map entries => uptoBulkEntries entries + 1
  | .held _ => 1
def uptoBulkAll {H : Type} : List (DataW H) → Nat
  | [] => 0
  | d :: r => uptoBulk d + uptoBulkAll r
def uptoBulkEntries {H : Type} : List (Lit × DataW H) → Nat
  | [] => 0
  | x :: r => uptoBulkEntry x + uptoBulkEntries r
def uptoBulkEntry {H : Type} : Lit × DataW H → Nat
  | (.string bytes, d) => bytes.length + uptoBulk d + 1
  | (_, d) => uptoBulk d + 1
 end
def uptoSmall : (H : Type) → List (DataW H) → Bool := fun _ ds => decide (uptoBulkAll ds ≤ 1048576)
def OpenSpec.upto (s : _root_.Go.ChangeSpec) : _root_.Go.OpenSpec := { _root_.Go.OpenSpec.ofChange s with cond := some uptoSmall }

/-- 'nurserylaw02.ChecksumByte', WHERE WHAT IT READS IS OF BULK AT MOST 1048576: true; the input reads as it did. -/
def checksumByteUptoRow : OpenClaim := { program := "ytbjhkgbkdlapdaa", sum := "851d97982d44958f84b17c07ce3c6b5a9c5ff08a8d1657b4f7df2bad6907fbf5", func := "nursery/nurserylaw02.ChecksumByte", spec := "checksumByte", unfollowed := true, recurses := true, apart := false, narrowed := true }
def ChecksumByteUptoSaid : Prop := checksumByteUptoRow.holds Try.pinned (OpenSpec.upto checksumByteSpec)

/-- 'nurserylaw02.ChecksumExchange', WHERE WHAT IT READS IS OF BULK AT MOST 1048576: true; the input reads as it did. -/
def checksumExchangeUptoRow : OpenClaim := { program := "ytbjhkgbkdlapdaa", sum := "851d97982d44958f84b17c07ce3c6b5a9c5ff08a8d1657b4f7df2bad6907fbf5", func := "nursery/nurserylaw02.ChecksumExchange", spec := "checksumExchange", unfollowed := true, recurses := true, apart := false, narrowed := true }
def ChecksumExchangeUptoSaid : Prop := checksumExchangeUptoRow.holds Try.pinned (OpenSpec.upto checksumExchangeSpec)

/-- 'nurserylaw02.ChecksumSum', WHERE WHAT IT READS IS OF BULK AT MOST 1048576: true; the input reads as it did. -/
def checksumSumUptoRow : OpenClaim := { program := "ytbjhkgbkdlapdaa", sum := "851d97982d44958f84b17c07ce3c6b5a9c5ff08a8d1657b4f7df2bad6907fbf5", func := "nursery/nurserylaw02.ChecksumSum", spec := "checksumSum", unfollowed := true, recurses := true, apart := false, narrowed := true }
def ChecksumSumUptoSaid : Prop := checksumSumUptoRow.holds Try.pinned (OpenSpec.upto checksumSumSpec)

/-- 'nurserylaw02.ChecksumConcatenation', WHERE WHAT IT READS IS OF BULK AT MOST 1048576: true; the input reads as it did. -/
def checksumConcatenationUptoRow : OpenClaim := { program := "ytbjhkgbkdlapdaa", sum := "851d97982d44958f84b17c07ce3c6b5a9c5ff08a8d1657b4f7df2bad6907fbf5", func := "nursery/nurserylaw02.ChecksumConcatenation", spec := "checksumConcatenation", unfollowed := true, recurses := true, apart := false, narrowed := true }
def ChecksumConcatenationUptoSaid : Prop := checksumConcatenationUptoRow.holds Try.pinned (OpenSpec.upto checksumConcatenationSpec)

/-- 'nurserylaw02.ChecksumFrame', WHERE WHAT IT READS IS OF BULK AT MOST 1048576: true; the input reads as it did. -/
def checksumFrameUptoRow : OpenClaim := { program := "ytbjhkgbkdlapdaa", sum := "851d97982d44958f84b17c07ce3c6b5a9c5ff08a8d1657b4f7df2bad6907fbf5", func := "nursery/nurserylaw02.ChecksumFrame", spec := "checksumFrame", unfollowed := true, recurses := true, apart := false, narrowed := true }
def ChecksumFrameUptoSaid : Prop := checksumFrameUptoRow.holds Try.pinned (OpenSpec.upto checksumFrameSpec)

/-- 'nurserylaw02.ChecksumRoundTrip', WHERE WHAT IT READS IS OF BULK AT MOST 1048576: true; the input reads as it did. -/
def checksumRoundTripUptoRow : OpenClaim := { program := "ytbjhkgbkdlapdaa", sum := "851d97982d44958f84b17c07ce3c6b5a9c5ff08a8d1657b4f7df2bad6907fbf5", func := "nursery/nurserylaw02.ChecksumRoundTrip", spec := "checksumRoundTrip", unfollowed := true, recurses := true, apart := false, narrowed := true }
def ChecksumRoundTripUptoSaid : Prop := checksumRoundTripUptoRow.holds Try.pinned (OpenSpec.upto checksumRoundTripSpec)

/-- 'nurserylaw02.ChecksumCanonical', WHERE WHAT IT READS IS OF BULK AT MOST 1048576: true; the input reads as it did. -/
def checksumCanonicalUptoRow : OpenClaim := { program := "ytbjhkgbkdlapdaa", sum := "851d97982d44958f84b17c07ce3c6b5a9c5ff08a8d1657b4f7df2bad6907fbf5", func := "nursery/nurserylaw02.ChecksumCanonical", spec := "checksumCanonical", unfollowed := true, recurses := true, apart := false, narrowed := true }
def ChecksumCanonicalUptoSaid : Prop := checksumCanonicalUptoRow.holds Try.pinned (OpenSpec.upto checksumCanonicalSpec)

/-- 'nurserylaw02.ChecksumDamage', WHERE WHAT IT READS IS OF BULK AT MOST 1048576: true; the input reads as it did. -/
def checksumDamageUptoRow : OpenClaim := { program := "ytbjhkgbkdlapdaa", sum := "851d97982d44958f84b17c07ce3c6b5a9c5ff08a8d1657b4f7df2bad6907fbf5", func := "nursery/nurserylaw02.ChecksumDamage", spec := "checksumDamage", unfollowed := true, recurses := true, apart := false, narrowed := true }
def ChecksumDamageUptoSaid : Prop := checksumDamageUptoRow.holds Try.pinned (OpenSpec.upto checksumDamageSpec)

/-- 'nurserylaw02.ChecksumShort', WHERE WHAT IT READS IS OF BULK AT MOST 1048576: true; the input reads as it did. -/
def checksumShortUptoRow : OpenClaim := { program := "ytbjhkgbkdlapdaa", sum := "851d97982d44958f84b17c07ce3c6b5a9c5ff08a8d1657b4f7df2bad6907fbf5", func := "nursery/nurserylaw02.ChecksumShort", spec := "checksumShort", unfollowed := true, recurses := true, apart := false, narrowed := true }
def ChecksumShortUptoSaid : Prop := checksumShortUptoRow.holds Try.pinned (OpenSpec.upto checksumShortSpec)

/-- 'nurserylaw02.ChecksumLong', WHERE WHAT IT READS IS OF BULK AT MOST 1048576: true; the input reads as it did. -/
def checksumLongUptoRow : OpenClaim := { program := "ytbjhkgbkdlapdaa", sum := "851d97982d44958f84b17c07ce3c6b5a9c5ff08a8d1657b4f7df2bad6907fbf5", func := "nursery/nurserylaw02.ChecksumLong", spec := "checksumLong", inPlace := ["internal/abi.NoEscape", "internal/bytealg.MakeNoZero"], unfollowed := true, recurses := true, apart := false, narrowed := true }
def ChecksumLongUptoSaid : Prop := checksumLongUptoRow.holds Try.pinned (OpenSpec.upto checksumLongSpec)

end Rows
end Go.Proofs.Ytbjhkgbkdlapdaa
