/-
  No cell of these rows narrows 'for every input' (looked for: loops, veiled, ifaces, maps, wideKeys, modest, calm, conditions, laid).
  DERIVED. THE GIVEN ROWS OF THIS SEAT. 7 by the template 'for every input the law returns true; each argument reads behind the call as it read before'; 0 by the template 'total and deterministic' (their statements: YtaplbcmpjhdohaaTotals.lean).
  GIVEN WITH THE SEED: the statements are not yours to turn. If you find one false, say at which input.
  Laid BY PROGRAM, IN A SANDBOX (cutbox-rows.mjs): the forced cells as the released guide's own fill.sh prints them over the translation ba48fd5f5ef0ab0d… (all of the seat's roots in one cut). By AI agents, Wed Nov 11 2026. No macro, syntax, notation, axiom, sorry.
-/
import Derived.Test.YtaplbcmpjhdohaaChecked
import GoSem.Claim
import GoSem.ClaimJoined
import GoSem.ClaimMapViews
import Derived.JoinedTies
import Derived.KernelRfl
namespace Go.Proofs.Ytaplbcmpjhdohaa
/- THE CELL 'sum', in the pinned program and in every row, IS THE sha256 OF THE DUMP (.gsa) THAT YtaplbcmpjhdohaaProg.lean LOADS. Nothing in Lean hashes anything: it is a label: what it is worth is what the hold of that sum in a sandbox is worth. -/
noncomputable def Try.pinned : Pinned := { name := "ytaplbcmpjhdohaa", sum := "ba48fd5f5ef0ab0da6ad53bbce8531162c736d4639b1631add97dd187ae5f8e9", checked := Try.checked }
namespace Rows
def none {H : Type} : Left H := { results := [], args := [] }

/-- 'nurserylaw05.VclockPairs': WHATEVER THE INPUT: true; the input reads as it did. -/
def vclockPairsSpec : ChangeSpec := { name := "vclockPairs", fn := fun _ => fun
  | [d1, d2] => { results := [.lit (.bool true)], args := [d1, d2] }
  | _ => none }
def vclockPairsRow : OpenClaim := { program := "ytaplbcmpjhdohaa", sum := "ba48fd5f5ef0ab0da6ad53bbce8531162c736d4639b1631add97dd187ae5f8e9", func := "nursery/nurserylaw05.VclockPairs", spec := "vclockPairs", unfollowed := true, recurses := true, apart := false }
def VclockPairsSaid : Prop := vclockPairsRow.holds Try.pinned (OpenSpec.ofChange vclockPairsSpec)

/-- ITS FALSE NEIGHBOUR: 'it returns false'. Refute it at one input. -/
def vclockPairsWrong : ChangeSpec := { name := "vclockPairs", fn := fun _ => fun
  | [d1, d2] => { results := [.lit (.bool false)], args := [d1, d2] }
  | _ => none }
def VclockPairsWrongFalsely : Prop := vclockPairsRow.holds Try.pinned (OpenSpec.ofChange vclockPairsWrong)

/-- 'nurserylaw05.VclockBounds': WHATEVER THE INPUT: true; the input reads as it did. -/
def vclockBoundsSpec : ChangeSpec := { name := "vclockBounds", fn := fun _ => fun
  | [d1, d2, d3] => { results := [.lit (.bool true)], args := [d1, d2, d3] }
  | _ => none }
def vclockBoundsRow : OpenClaim := { program := "ytaplbcmpjhdohaa", sum := "ba48fd5f5ef0ab0da6ad53bbce8531162c736d4639b1631add97dd187ae5f8e9", func := "nursery/nurserylaw05.VclockBounds", spec := "vclockBounds", unfollowed := true, recurses := true, apart := false }
def VclockBoundsSaid : Prop := vclockBoundsRow.holds Try.pinned (OpenSpec.ofChange vclockBoundsSpec)

/-- ITS FALSE NEIGHBOUR: 'it returns false'. Refute it at one input. -/
def vclockBoundsWrong : ChangeSpec := { name := "vclockBounds", fn := fun _ => fun
  | [d1, d2, d3] => { results := [.lit (.bool false)], args := [d1, d2, d3] }
  | _ => none }
def VclockBoundsWrongFalsely : Prop := vclockBoundsRow.holds Try.pinned (OpenSpec.ofChange vclockBoundsWrong)

/-- 'nurserylaw05.VclockOrder': WHATEVER THE INPUT: true; the input reads as it did. -/
def vclockOrderSpec : ChangeSpec := { name := "vclockOrder", fn := fun _ => fun
  | [d1, d2, d3] => { results := [.lit (.bool true)], args := [d1, d2, d3] }
  | _ => none }
def vclockOrderRow : OpenClaim := { program := "ytaplbcmpjhdohaa", sum := "ba48fd5f5ef0ab0da6ad53bbce8531162c736d4639b1631add97dd187ae5f8e9", func := "nursery/nurserylaw05.VclockOrder", spec := "vclockOrder", unfollowed := true, recurses := true, apart := false }
def VclockOrderSaid : Prop := vclockOrderRow.holds Try.pinned (OpenSpec.ofChange vclockOrderSpec)

/-- ITS FALSE NEIGHBOUR: 'it returns false'. Refute it at one input. -/
def vclockOrderWrong : ChangeSpec := { name := "vclockOrder", fn := fun _ => fun
  | [d1, d2, d3] => { results := [.lit (.bool false)], args := [d1, d2, d3] }
  | _ => none }
def VclockOrderWrongFalsely : Prop := vclockOrderRow.holds Try.pinned (OpenSpec.ofChange vclockOrderWrong)

/-- 'nurserylaw05.VclockTicks': WHATEVER THE INPUT: true; the input reads as it did. -/
def vclockTicksSpec : ChangeSpec := { name := "vclockTicks", fn := fun _ => fun
  | [d1, d2, d3] => { results := [.lit (.bool true)], args := [d1, d2, d3] }
  | _ => none }
def vclockTicksRow : OpenClaim := { program := "ytaplbcmpjhdohaa", sum := "ba48fd5f5ef0ab0da6ad53bbce8531162c736d4639b1631add97dd187ae5f8e9", func := "nursery/nurserylaw05.VclockTicks", spec := "vclockTicks", unfollowed := true, recurses := true, apart := false }
def VclockTicksSaid : Prop := vclockTicksRow.holds Try.pinned (OpenSpec.ofChange vclockTicksSpec)

/-- ITS FALSE NEIGHBOUR: 'it returns false'. Refute it at one input. -/
def vclockTicksWrong : ChangeSpec := { name := "vclockTicks", fn := fun _ => fun
  | [d1, d2, d3] => { results := [.lit (.bool false)], args := [d1, d2, d3] }
  | _ => none }
def VclockTicksWrongFalsely : Prop := vclockTicksRow.holds Try.pinned (OpenSpec.ofChange vclockTicksWrong)

/-- 'nurserylaw05.VclockCausality': WHATEVER THE INPUT: true; the input reads as it did. -/
def vclockCausalitySpec : ChangeSpec := { name := "vclockCausality", fn := fun _ => fun
  | [d] => { results := [.lit (.bool true)], args := [d] }
  | _ => none }
def vclockCausalityRow : OpenClaim := { program := "ytaplbcmpjhdohaa", sum := "ba48fd5f5ef0ab0da6ad53bbce8531162c736d4639b1631add97dd187ae5f8e9", func := "nursery/nurserylaw05.VclockCausality", spec := "vclockCausality", unfollowed := true, recurses := true, apart := false }
def VclockCausalitySaid : Prop := vclockCausalityRow.holds Try.pinned (OpenSpec.ofChange vclockCausalitySpec)

/-- ITS FALSE NEIGHBOUR: 'it returns false'. Refute it at one input. -/
def vclockCausalityWrong : ChangeSpec := { name := "vclockCausality", fn := fun _ => fun
  | [d] => { results := [.lit (.bool false)], args := [d] }
  | _ => none }
def VclockCausalityWrongFalsely : Prop := vclockCausalityRow.holds Try.pinned (OpenSpec.ofChange vclockCausalityWrong)

/-- 'nurserylaw05.VclockCodec': WHATEVER THE INPUT: true; the input reads as it did. -/
def vclockCodecSpec : ChangeSpec := { name := "vclockCodec", fn := fun _ => fun
  | [d1, d2] => { results := [.lit (.bool true)], args := [d1, d2] }
  | _ => none }
def vclockCodecRow : OpenClaim := { program := "ytaplbcmpjhdohaa", sum := "ba48fd5f5ef0ab0da6ad53bbce8531162c736d4639b1631add97dd187ae5f8e9", func := "nursery/nurserylaw05.VclockCodec", spec := "vclockCodec", inPlace := ["internal/abi.NoEscape"], unfollowed := true, recurses := true, apart := false }
def VclockCodecSaid : Prop := vclockCodecRow.holds Try.pinned (OpenSpec.ofChange vclockCodecSpec)

/-- ITS FALSE NEIGHBOUR: 'it returns false'. Refute it at one input. -/
def vclockCodecWrong : ChangeSpec := { name := "vclockCodec", fn := fun _ => fun
  | [d1, d2] => { results := [.lit (.bool false)], args := [d1, d2] }
  | _ => none }
def VclockCodecWrongFalsely : Prop := vclockCodecRow.holds Try.pinned (OpenSpec.ofChange vclockCodecWrong)

/-- 'nurserylaw05.VclockClocks': WHATEVER THE INPUT: true; the input reads as it did. -/
def vclockClocksSpec : ChangeSpec := { name := "vclockClocks", fn := fun _ => fun
  | [d1, d2, d3, d4] => { results := [.lit (.bool true)], args := [d1, d2, d3, d4] }
  | _ => none }
def vclockClocksRow : OpenClaim := { program := "ytaplbcmpjhdohaa", sum := "ba48fd5f5ef0ab0da6ad53bbce8531162c736d4639b1631add97dd187ae5f8e9", func := "nursery/nurserylaw05.VclockClocks", spec := "vclockClocks", inPlace := ["internal/abi.NoEscape"], unfollowed := true, recurses := true, apart := false }
def VclockClocksSaid : Prop := vclockClocksRow.holds Try.pinned (OpenSpec.ofChange vclockClocksSpec)

/-- ITS FALSE NEIGHBOUR: 'it returns false'. Refute it at one input. -/
def vclockClocksWrong : ChangeSpec := { name := "vclockClocks", fn := fun _ => fun
  | [d1, d2, d3, d4] => { results := [.lit (.bool false)], args := [d1, d2, d3, d4] }
  | _ => none }
def VclockClocksWrongFalsely : Prop := vclockClocksRow.holds Try.pinned (OpenSpec.ofChange vclockClocksWrong)

/- THE SECOND FORM. 'bulk': how many values and letters a reading holds, each counted each time it is reached (what is shared counts as often as it is met; a slice's spare places count too). A statement '..UptoSaid' is the law's where the arguments, and the package variables that the reading takes, are together of bulk at most 1048576: NARROWER than '..Said'. Prove '..Said' where nothing that the law and all that it calls make is longer than what came in: it says more and counts as full. Else prove '..UptoSaid'. A law counts once. -/
mutual
def uptoBulk {H : Type} : DataW H → Nat
  | .lit (.string bytes) => bytes.length + 1
  | .lit _ => 1
  | .nil => 1
  | .ptr d => uptoBulk d + 1
  | .slice elems spare => uptoBulkAll elems + uptoBulkAll spare + 1
  | .agg parts => uptoBulkAll parts + 1
  | .iface _ d => uptoBulk d + 1
  | .map entries => uptoBulkEntries entries + 1
  | .held _ => 1
def uptoBulkAll {H : Type} : List (DataW H) → Nat
  | [] => 0
  | d :: r => uptoBulk d + uptoBulkAll r
def uptoBulkEntries {H : Type} : List (Lit × DataW H) → Nat
  | [] => 0
  | x :: r => uptoBulkEntry x + uptoBulkEntries r
def uptoBulkEntry {H : Type} : Lit × DataW H → Nat
  | (.string bytes, d) => bytes.length + uptoBulk d + 1
  | (_, d) => uptoBulk d + 1
 end
def uptoSmall : (H : Type) → List (DataW H) → Bool := fun _ ds => decide (uptoBulkAll ds ≤ 1048576)
def OpenSpec.upto (s : _root_.Go.ChangeSpec) : _root_.Go.OpenSpec := { _root_.Go.OpenSpec.ofChange s with cond := some uptoSmall }

/-- 'nurserylaw05.VclockPairs', WHERE WHAT IT READS IS OF BULK AT MOST 1048576: true; the input reads as it did. -/
def vclockPairsUptoRow : OpenClaim := { program := "ytaplbcmpjhdohaa", sum := "ba48fd5f5ef0ab0da6ad53bbce8531162c736d4639b1631add97dd187ae5f8e9", func := "nursery/nurserylaw05.VclockPairs", spec := "vclockPairs", unfollowed := true, recurses := true, apart := false, narrowed := true }
def VclockPairsUptoSaid : Prop := vclockPairsUptoRow.holds Try.pinned (OpenSpec.upto vclockPairsSpec)

/-- 'nurserylaw05.VclockBounds', WHERE WHAT IT READS IS OF BULK AT MOST 1048576: true; the input reads as it did. -/
def vclockBoundsUptoRow : OpenClaim := { program := "ytaplbcmpjhdohaa", sum := "ba48fd5f5ef0ab0da6ad53bbce8531162c736d4639b1631add97dd187ae5f8e9", func := "nursery/nurserylaw05.VclockBounds", spec := "vclockBounds", unfollowed := true, recurses := true, apart := false, narrowed := true }
def VclockBoundsUptoSaid : Prop := vclockBoundsUptoRow.holds Try.pinned (OpenSpec.upto vclockBoundsSpec)

/-- 'nurserylaw05.VclockOrder', WHERE WHAT IT READS IS OF BULK AT MOST 1048576: true; the input reads as it did. -/
def vclockOrderUptoRow : OpenClaim := { program := "ytaplbcmpjhdohaa", sum := "ba48fd5f5ef0ab0da6ad53bbce8531162c736d4639b1631add97dd187ae5f8e9", func := "nursery/nurserylaw05.VclockOrder", spec := "vclockOrder", unfollowed := true, recurses := true, apart := false, narrowed := true }
def VclockOrderUptoSaid : Prop := vclockOrderUptoRow.holds Try.pinned (OpenSpec.upto vclockOrderSpec)

/-- 'nurserylaw05.VclockTicks', WHERE WHAT IT READS IS OF BULK AT MOST 1048576: true; the input reads as it did. -/
def vclockTicksUptoRow : OpenClaim := { program := "ytaplbcmpjhdohaa", sum := "ba48fd5f5ef0ab0da6ad53bbce8531162c736d4639b1631add97dd187ae5f8e9", func := "nursery/nurserylaw05.VclockTicks", spec := "vclockTicks", unfollowed := true, recurses := true, apart := false, narrowed := true }
def VclockTicksUptoSaid : Prop := vclockTicksUptoRow.holds Try.pinned (OpenSpec.upto vclockTicksSpec)

/-- 'nurserylaw05.VclockCausality', WHERE WHAT IT READS IS OF BULK AT MOST 1048576: true; the input reads as it did. -/
def vclockCausalityUptoRow : OpenClaim := { program := "ytaplbcmpjhdohaa", sum := "ba48fd5f5ef0ab0da6ad53bbce8531162c736d4639b1631add97dd187ae5f8e9", func := "nursery/nurserylaw05.VclockCausality", spec := "vclockCausality", unfollowed := true, recurses := true, apart := false, narrowed := true }
def VclockCausalityUptoSaid : Prop := vclockCausalityUptoRow.holds Try.pinned (OpenSpec.upto vclockCausalitySpec)

/-- 'nurserylaw05.VclockCodec', WHERE WHAT IT READS IS OF BULK AT MOST 1048576: true; the input reads as it did. -/
def vclockCodecUptoRow : OpenClaim := { program := "ytaplbcmpjhdohaa", sum := "ba48fd5f5ef0ab0da6ad53bbce8531162c736d4639b1631add97dd187ae5f8e9", func := "nursery/nurserylaw05.VclockCodec", spec := "vclockCodec", inPlace := ["internal/abi.NoEscape"], unfollowed := true, recurses := true, apart := false, narrowed := true }
def VclockCodecUptoSaid : Prop := vclockCodecUptoRow.holds Try.pinned (OpenSpec.upto vclockCodecSpec)

/-- 'nurserylaw05.VclockClocks', WHERE WHAT IT READS IS OF BULK AT MOST 1048576: true; the input reads as it did. -/
def vclockClocksUptoRow : OpenClaim := { program := "ytaplbcmpjhdohaa", sum := "ba48fd5f5ef0ab0da6ad53bbce8531162c736d4639b1631add97dd187ae5f8e9", func := "nursery/nurserylaw05.VclockClocks", spec := "vclockClocks", inPlace := ["internal/abi.NoEscape"], unfollowed := true, recurses := true, apart := false, narrowed := true }
def VclockClocksUptoSaid : Prop := vclockClocksUptoRow.holds Try.pinned (OpenSpec.upto vclockClocksSpec)

end Rows
end Go.Proofs.Ytaplbcmpjhdohaa
