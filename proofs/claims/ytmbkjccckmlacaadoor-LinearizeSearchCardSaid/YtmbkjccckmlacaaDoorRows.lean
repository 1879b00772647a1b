/-
  NARROWER THAN 'FOR EVERY INPUT', by the rows' own cells (each row's printed sentence says how): LinearizeBeginnings: laid · LinearizeSearch: laid · LinearizeVerify: laid · LinearizeApply: laid · LinearizeFinds: laid · LinearizeSequential: laid · LinearizeExplains: laid.
  DERIVED. THE GIVEN ROWS OF THIS SEAT. 7 by the template 'for every input the law returns true; each argument reads behind the call as it read before'; 0 by the template 'total and deterministic' (their statements: YtmbkjccckmlacaaDoorTotals.lean).
  GIVEN WITH THE SEED: the statements are not yours to turn. If you find one false, say at which input.
  Laid BY PROGRAM, IN A SANDBOX (cutbox-rows.mjs): the forced cells as the released guide's own fill.sh prints them over the translation 15dde39b3110c380… (all of the seat's roots in one cut). By AI agents, Wed Nov 11 2026. No macro, syntax, notation, axiom, sorry.
-/
import Derived.Test.YtmbkjccckmlacaaDoorChecked
import GoSem.Claim
import GoSem.ClaimJoined
import GoSem.ClaimMapViews
import Derived.JoinedTies
import Derived.KernelRfl
namespace Go.Proofs.YtmbkjccckmlacaaDoor
/- THE CELL 'sum', in the pinned program and in every row, IS THE sha256 OF THE DUMP (.gsa) THAT YtmbkjccckmlacaaDoorProg.lean LOADS. Nothing in Lean hashes anything: it is a label: what it is worth is what the hold of that sum in a sandbox is worth. -/
noncomputable def Tryd.pinned : Pinned := { name := "ytmbkjccckmlacaadoor", sum := "15dde39b3110c380de7668466eed21f31d85ca1ec3cac9daa3549e99b2e482f0", checked := Tryd.checked }
namespace Rows
def none {H : Type} : Left H := { results := [], args := [] }

/- WHAT THE LISTED PACKAGE-LEVEL VARIABLES READ AS WHEN THE CALL BEGINS. Each datum BY PROGRAM (the guide's laid-datum.mjs) off the statement by which the dump's own 'gosem.cut.vars' lays the variable. In a bare row this is a premise. The card (YtmbkjccckmlacaaDoorCards.lean) ties it to the program's text. -/
def laid_math_bits_deBruijn32tab {H : Type} : DataW H := .agg [.lit (.int .u8 0), .lit (.int .u8 1), .lit (.int .u8 28), .lit (.int .u8 2), .lit (.int .u8 29), .lit (.int .u8 14), .lit (.int .u8 24), .lit (.int .u8 3), .lit (.int .u8 30), .lit (.int .u8 22), .lit (.int .u8 20), .lit (.int .u8 15), .lit (.int .u8 25), .lit (.int .u8 17), .lit (.int .u8 4), .lit (.int .u8 8), .lit (.int .u8 31), .lit (.int .u8 27), .lit (.int .u8 13), .lit (.int .u8 23), .lit (.int .u8 21), .lit (.int .u8 19), .lit (.int .u8 16), .lit (.int .u8 7), .lit (.int .u8 26), .lit (.int .u8 12), .lit (.int .u8 18), .lit (.int .u8 6), .lit (.int .u8 11), .lit (.int .u8 5), .lit (.int .u8 10), .lit (.int .u8 9)]
def laid_math_bits_deBruijn64tab {H : Type} : DataW H := .agg [.lit (.int .u8 0), .lit (.int .u8 1), .lit (.int .u8 56), .lit (.int .u8 2), .lit (.int .u8 57), .lit (.int .u8 49), .lit (.int .u8 28), .lit (.int .u8 3), .lit (.int .u8 61), .lit (.int .u8 58), .lit (.int .u8 42), .lit (.int .u8 50), .lit (.int .u8 38), .lit (.int .u8 29), .lit (.int .u8 17), .lit (.int .u8 4), .lit (.int .u8 62), .lit (.int .u8 47), .lit (.int .u8 59), .lit (.int .u8 36), .lit (.int .u8 45), .lit (.int .u8 43), .lit (.int .u8 51), .lit (.int .u8 22), .lit (.int .u8 53), .lit (.int .u8 39), .lit (.int .u8 33), .lit (.int .u8 30), .lit (.int .u8 24), .lit (.int .u8 18), .lit (.int .u8 12), .lit (.int .u8 5), .lit (.int .u8 63), .lit (.int .u8 55), .lit (.int .u8 48), .lit (.int .u8 27), .lit (.int .u8 60), .lit (.int .u8 41), .lit (.int .u8 37), .lit (.int .u8 16), .lit (.int .u8 46), .lit (.int .u8 35), .lit (.int .u8 44), .lit (.int .u8 21), .lit (.int .u8 52), .lit (.int .u8 32), .lit (.int .u8 23), .lit (.int .u8 11), .lit (.int .u8 54), .lit (.int .u8 26), .lit (.int .u8 40), .lit (.int .u8 15), .lit (.int .u8 34), .lit (.int .u8 20), .lit (.int .u8 31), .lit (.int .u8 10), .lit (.int .u8 25), .lit (.int .u8 14), .lit (.int .u8 19), .lit (.int .u8 9), .lit (.int .u8 13), .lit (.int .u8 8), .lit (.int .u8 7), .lit (.int .u8 6)]
def laid_internal_strconv_uint64pow10 {H : Type} : DataW H := .agg [.lit (.int .u64 1), .lit (.int .u64 10), .lit (.int .u64 100), .lit (.int .u64 1000), .lit (.int .u64 10000), .lit (.int .u64 100000), .lit (.int .u64 1000000), .lit (.int .u64 10000000), .lit (.int .u64 100000000), .lit (.int .u64 1000000000), .lit (.int .u64 10000000000), .lit (.int .u64 100000000000), .lit (.int .u64 1000000000000), .lit (.int .u64 10000000000000), .lit (.int .u64 100000000000000), .lit (.int .u64 1000000000000000), .lit (.int .u64 10000000000000000), .lit (.int .u64 100000000000000000), .lit (.int .u64 1000000000000000000), .lit (.int .u64 10000000000000000000)]

/-- 'nurserylaw44.LinearizeBeginnings': WHATEVER THE INPUT: true; the input reads as it did. -/
def linearizeBeginningsSpec : ChangeSpec := { name := "linearizeBeginnings", fn := fun _ => fun
  | [d1, d2, d3] => { results := [.lit (.bool true)], args := [d1, d2, d3] }
  | _ => none }
def linearizeBeginningsRow : OpenClaim := { program := "ytmbkjccckmlacaadoor", sum := "15dde39b3110c380de7668466eed21f31d85ca1ec3cac9daa3549e99b2e482f0", func := "nursery/nurserylaw44.LinearizeBeginnings", spec := "linearizeBeginnings", inPlace := ["slices.overlaps[int]"], unfollowed := true, recurses := true, named := ["internal/strconv.uint64pow10", "math/bits.deBruijn32tab", "math/bits.deBruijn64tab"], apart := false, laid := [("math/bits.deBruijn32tab", laid_math_bits_deBruijn32tab), ("math/bits.deBruijn64tab", laid_math_bits_deBruijn64tab), ("internal/strconv.uint64pow10", laid_internal_strconv_uint64pow10)] }
def LinearizeBeginningsSaid : Prop := linearizeBeginningsRow.holds Tryd.pinned (OpenSpec.ofChange linearizeBeginningsSpec)

/-- ITS FALSE NEIGHBOUR: 'it returns false'. Refute it at one input. -/
def linearizeBeginningsWrong : ChangeSpec := { name := "linearizeBeginnings", fn := fun _ => fun
  | [d1, d2, d3] => { results := [.lit (.bool false)], args := [d1, d2, d3] }
  | _ => none }
def LinearizeBeginningsWrongFalsely : Prop := linearizeBeginningsRow.holds Tryd.pinned (OpenSpec.ofChange linearizeBeginningsWrong)

/-- 'nurserylaw44.LinearizeSearch': WHATEVER THE INPUT: true; the input reads as it did. -/
def linearizeSearchSpec : ChangeSpec := { name := "linearizeSearch", fn := fun _ => fun
  | [d1, d2, d3] => { results := [.lit (.bool true)], args := [d1, d2, d3] }
  | _ => none }
def linearizeSearchRow : OpenClaim := { program := "ytmbkjccckmlacaadoor", sum := "15dde39b3110c380de7668466eed21f31d85ca1ec3cac9daa3549e99b2e482f0", func := "nursery/nurserylaw44.LinearizeSearch", spec := "linearizeSearch", inPlace := ["slices.overlaps[int]"], unfollowed := true, recurses := true, named := ["internal/strconv.uint64pow10", "math/bits.deBruijn32tab", "math/bits.deBruijn64tab"], apart := false, laid := [("math/bits.deBruijn32tab", laid_math_bits_deBruijn32tab), ("math/bits.deBruijn64tab", laid_math_bits_deBruijn64tab), ("internal/strconv.uint64pow10", laid_internal_strconv_uint64pow10)] }
def LinearizeSearchSaid : Prop := linearizeSearchRow.holds Tryd.pinned (OpenSpec.ofChange linearizeSearchSpec)

/-- ITS FALSE NEIGHBOUR: 'it returns false'. Refute it at one input. -/
def linearizeSearchWrong : ChangeSpec := { name := "linearizeSearch", fn := fun _ => fun
  | [d1, d2, d3] => { results := [.lit (.bool false)], args := [d1, d2, d3] }
  | _ => none }
def LinearizeSearchWrongFalsely : Prop := linearizeSearchRow.holds Tryd.pinned (OpenSpec.ofChange linearizeSearchWrong)

/-- 'nurserylaw44.LinearizeVerify': WHATEVER THE INPUT: true; the input reads as it did. -/
def linearizeVerifySpec : ChangeSpec := { name := "linearizeVerify", fn := fun _ => fun
  | [d1, d2, d3] => { results := [.lit (.bool true)], args := [d1, d2, d3] }
  | _ => none }
def linearizeVerifyRow : OpenClaim := { program := "ytmbkjccckmlacaadoor", sum := "15dde39b3110c380de7668466eed21f31d85ca1ec3cac9daa3549e99b2e482f0", func := "nursery/nurserylaw44.LinearizeVerify", spec := "linearizeVerify", inPlace := ["slices.overlaps[int]"], unfollowed := true, recurses := true, named := ["internal/strconv.uint64pow10", "math/bits.deBruijn32tab", "math/bits.deBruijn64tab"], apart := false, laid := [("math/bits.deBruijn32tab", laid_math_bits_deBruijn32tab), ("math/bits.deBruijn64tab", laid_math_bits_deBruijn64tab), ("internal/strconv.uint64pow10", laid_internal_strconv_uint64pow10)] }
def LinearizeVerifySaid : Prop := linearizeVerifyRow.holds Tryd.pinned (OpenSpec.ofChange linearizeVerifySpec)

/-- ITS FALSE NEIGHBOUR: 'it returns false'. Refute it at one input. -/
def linearizeVerifyWrong : ChangeSpec := { name := "linearizeVerify", fn := fun _ => fun
  | [d1, d2, d3] => { results := [.lit (.bool false)], args := [d1, d2, d3] }
  | _ => none }
def LinearizeVerifyWrongFalsely : Prop := linearizeVerifyRow.holds Tryd.pinned (OpenSpec.ofChange linearizeVerifyWrong)

/-- 'nurserylaw44.LinearizeApply': WHATEVER THE INPUT: true; the input reads as it did. -/
def linearizeApplySpec : ChangeSpec := { name := "linearizeApply", fn := fun _ => fun
  | [d1, d2, d3, d4] => { results := [.lit (.bool true)], args := [d1, d2, d3, d4] }
  | _ => none }
def linearizeApplyRow : OpenClaim := { program := "ytmbkjccckmlacaadoor", sum := "15dde39b3110c380de7668466eed21f31d85ca1ec3cac9daa3549e99b2e482f0", func := "nursery/nurserylaw44.LinearizeApply", spec := "linearizeApply", inPlace := ["slices.overlaps[int]"], unfollowed := true, recurses := true, named := ["internal/strconv.uint64pow10", "math/bits.deBruijn32tab", "math/bits.deBruijn64tab"], apart := false, laid := [("math/bits.deBruijn32tab", laid_math_bits_deBruijn32tab), ("math/bits.deBruijn64tab", laid_math_bits_deBruijn64tab), ("internal/strconv.uint64pow10", laid_internal_strconv_uint64pow10)] }
def LinearizeApplySaid : Prop := linearizeApplyRow.holds Tryd.pinned (OpenSpec.ofChange linearizeApplySpec)

/-- ITS FALSE NEIGHBOUR: 'it returns false'. Refute it at one input. -/
def linearizeApplyWrong : ChangeSpec := { name := "linearizeApply", fn := fun _ => fun
  | [d1, d2, d3, d4] => { results := [.lit (.bool false)], args := [d1, d2, d3, d4] }
  | _ => none }
def LinearizeApplyWrongFalsely : Prop := linearizeApplyRow.holds Tryd.pinned (OpenSpec.ofChange linearizeApplyWrong)

/-- 'nurserylaw44.LinearizeFinds': WHATEVER THE INPUT: true; the input reads as it did. -/
def linearizeFindsSpec : ChangeSpec := { name := "linearizeFinds", fn := fun _ => fun
  | [d1, d2, d3] => { results := [.lit (.bool true)], args := [d1, d2, d3] }
  | _ => none }
def linearizeFindsRow : OpenClaim := { program := "ytmbkjccckmlacaadoor", sum := "15dde39b3110c380de7668466eed21f31d85ca1ec3cac9daa3549e99b2e482f0", func := "nursery/nurserylaw44.LinearizeFinds", spec := "linearizeFinds", inPlace := ["slices.overlaps[int]"], unfollowed := true, recurses := true, named := ["internal/strconv.uint64pow10", "math/bits.deBruijn32tab", "math/bits.deBruijn64tab"], apart := false, laid := [("math/bits.deBruijn32tab", laid_math_bits_deBruijn32tab), ("math/bits.deBruijn64tab", laid_math_bits_deBruijn64tab), ("internal/strconv.uint64pow10", laid_internal_strconv_uint64pow10)] }
def LinearizeFindsSaid : Prop := linearizeFindsRow.holds Tryd.pinned (OpenSpec.ofChange linearizeFindsSpec)

/-- ITS FALSE NEIGHBOUR: 'it returns false'. Refute it at one input. -/
def linearizeFindsWrong : ChangeSpec := { name := "linearizeFinds", fn := fun _ => fun
  | [d1, d2, d3] => { results := [.lit (.bool false)], args := [d1, d2, d3] }
  | _ => none }
def LinearizeFindsWrongFalsely : Prop := linearizeFindsRow.holds Tryd.pinned (OpenSpec.ofChange linearizeFindsWrong)

/-- 'nurserylaw44.LinearizeSequential': WHATEVER THE INPUT: true; the input reads as it did. -/
def linearizeSequentialSpec : ChangeSpec := { name := "linearizeSequential", fn := fun _ => fun
  | [d1, d2, d3, d4] => { results := [.lit (.bool true)], args := [d1, d2, d3, d4] }
  | _ => none }
def linearizeSequentialRow : OpenClaim := { program := "ytmbkjccckmlacaadoor", sum := "15dde39b3110c380de7668466eed21f31d85ca1ec3cac9daa3549e99b2e482f0", func := "nursery/nurserylaw44.LinearizeSequential", spec := "linearizeSequential", inPlace := ["slices.overlaps[int]"], unfollowed := true, recurses := true, named := ["internal/strconv.uint64pow10", "math/bits.deBruijn32tab", "math/bits.deBruijn64tab"], apart := false, laid := [("math/bits.deBruijn32tab", laid_math_bits_deBruijn32tab), ("math/bits.deBruijn64tab", laid_math_bits_deBruijn64tab), ("internal/strconv.uint64pow10", laid_internal_strconv_uint64pow10)] }
def LinearizeSequentialSaid : Prop := linearizeSequentialRow.holds Tryd.pinned (OpenSpec.ofChange linearizeSequentialSpec)

/-- ITS FALSE NEIGHBOUR: 'it returns false'. Refute it at one input. -/
def linearizeSequentialWrong : ChangeSpec := { name := "linearizeSequential", fn := fun _ => fun
  | [d1, d2, d3, d4] => { results := [.lit (.bool false)], args := [d1, d2, d3, d4] }
  | _ => none }
def LinearizeSequentialWrongFalsely : Prop := linearizeSequentialRow.holds Tryd.pinned (OpenSpec.ofChange linearizeSequentialWrong)

/-- 'nurserylaw44.LinearizeExplains': WHATEVER THE INPUT: true; the input reads as it did. -/
def linearizeExplainsSpec : ChangeSpec := { name := "linearizeExplains", fn := fun _ => fun
  | [d1, d2] => { results := [.lit (.bool true)], args := [d1, d2] }
  | _ => none }
def linearizeExplainsRow : OpenClaim := { program := "ytmbkjccckmlacaadoor", sum := "15dde39b3110c380de7668466eed21f31d85ca1ec3cac9daa3549e99b2e482f0", func := "nursery/nurserylaw44.LinearizeExplains", spec := "linearizeExplains", inPlace := ["slices.overlaps[int]"], unfollowed := true, recurses := true, named := ["internal/strconv.uint64pow10", "math/bits.deBruijn32tab", "math/bits.deBruijn64tab"], apart := false, laid := [("math/bits.deBruijn32tab", laid_math_bits_deBruijn32tab), ("math/bits.deBruijn64tab", laid_math_bits_deBruijn64tab), ("internal/strconv.uint64pow10", laid_internal_strconv_uint64pow10)] }
def LinearizeExplainsSaid : Prop := linearizeExplainsRow.holds Tryd.pinned (OpenSpec.ofChange linearizeExplainsSpec)

/-- ITS FALSE NEIGHBOUR: 'it returns false'. Refute it at one input. -/
def linearizeExplainsWrong : ChangeSpec := { name := "linearizeExplains", fn := fun _ => fun
  | [d1, d2] => { results := [.lit (.bool false)], args := [d1, d2] }
  | _ => none }
def LinearizeExplainsWrongFalsely : Prop := linearizeExplainsRow.holds Tryd.pinned (OpenSpec.ofChange linearizeExplainsWrong)

/- THE SECOND FORM. 'bulk': how many values and letters a reading holds, each counted each time it is reached (what is shared counts as often as it is met; a slice's spare places count too). A statement '..UptoSaid' is the law's where the arguments, and the package variables that the reading takes, are together of bulk at most 1048576: NARROWER than '..Said'. Prove '..Said' where nothing that the law and all that it calls make is longer than what came in: it says more and counts as full. Else prove '..UptoSaid'. A law counts once. -/
mutual
def uptoBulk {H : Type} : DataW H → Nat
  | .lit (.string bytes) => bytes.length + 1
  | .lit _ => 1
  | .nil => 1
  | .ptr d => uptoBulk d + 1
  | .slice elems spare => uptoBulkAll elems + uptoBulkAll spare + 1
  | .agg parts => uptoBulkAll parts + 1
  | .iface _ d => uptoBulk d + 1
  | .map entries => uptoBulkEntries entries + 1
  | .held _ => 1
def uptoBulkAll {H : Type} : List (DataW H) → Nat
  | [] => 0
  | d :: r => uptoBulk d + uptoBulkAll r
def uptoBulkEntries {H : Type} : List (Lit × DataW H) → Nat
  | [] => 0
  | x :: r => uptoBulkEntry x + uptoBulkEntries r
def uptoBulkEntry {H : Type} : Lit × DataW H → Nat
  | (.string bytes, d) => bytes.length + uptoBulk d + 1
  | (_, d) => uptoBulk d + 1
 end
def uptoSmall : (H : Type) → List (DataW H) → Bool := fun _ ds => decide (uptoBulkAll ds ≤ 1048576)
def OpenSpec.upto (s : _root_.Go.ChangeSpec) : _root_.Go.OpenSpec := { _root_.Go.OpenSpec.ofChange s with cond := some uptoSmall }

/-- 'nurserylaw44.LinearizeBeginnings', WHERE WHAT IT READS IS OF BULK AT MOST 1048576: true; the input reads as it did. -/
def linearizeBeginningsUptoRow : OpenClaim := { program := "ytmbkjccckmlacaadoor", sum := "15dde39b3110c380de7668466eed21f31d85ca1ec3cac9daa3549e99b2e482f0", func := "nursery/nurserylaw44.LinearizeBeginnings", spec := "linearizeBeginnings", inPlace := ["slices.overlaps[int]"], unfollowed := true, recurses := true, named := ["internal/strconv.uint64pow10", "math/bits.deBruijn32tab", "math/bits.deBruijn64tab"], apart := false, laid := [("math/bits.deBruijn32tab", laid_math_bits_deBruijn32tab), ("math/bits.deBruijn64tab", laid_math_bits_deBruijn64tab), ("internal/strconv.uint64pow10", laid_internal_strconv_uint64pow10)], narrowed := true }
def LinearizeBeginningsUptoSaid : Prop := linearizeBeginningsUptoRow.holds Tryd.pinned (OpenSpec.upto linearizeBeginningsSpec)

/-- 'nurserylaw44.LinearizeSearch', WHERE WHAT IT READS IS OF BULK AT MOST 1048576: true; the input reads as it did. -/
def linearizeSearchUptoRow : OpenClaim := { program := "ytmbkjccckmlacaadoor", sum := "15dde39b3110c380de7668466eed21f31d85ca1ec3cac9daa3549e99b2e482f0", func := "nursery/nurserylaw44.LinearizeSearch", spec := "linearizeSearch", inPlace := ["slices.overlaps[int]"], unfollowed := true, recurses := true, named := ["internal/strconv.uint64pow10", "math/bits.deBruijn32tab", "math/bits.deBruijn64tab"], apart := false, laid := [("math/bits.deBruijn32tab", laid_math_bits_deBruijn32tab), ("math/bits.deBruijn64tab", laid_math_bits_deBruijn64tab), ("internal/strconv.uint64pow10", laid_internal_strconv_uint64pow10)], narrowed := true }
def LinearizeSearchUptoSaid : Prop := linearizeSearchUptoRow.holds Tryd.pinned (OpenSpec.upto linearizeSearchSpec)

/-- 'nurserylaw44.LinearizeVerify', WHERE WHAT IT READS IS OF BULK AT MOST 1048576: true; the input reads as it did. -/
def linearizeVerifyUptoRow : OpenClaim := { program := "ytmbkjccckmlacaadoor", sum := "15dde39b3110c380de7668466eed21f31d85ca1ec3cac9daa3549e99b2e482f0", func := "nursery/nurserylaw44.LinearizeVerify", spec := "linearizeVerify", inPlace := ["slices.overlaps[int]"], unfollowed := true, recurses := true, named := ["internal/strconv.uint64pow10", "math/bits.deBruijn32tab", "math/bits.deBruijn64tab"], apart := false, laid := [("math/bits.deBruijn32tab", laid_math_bits_deBruijn32tab), ("math/bits.deBruijn64tab", laid_math_bits_deBruijn64tab), ("internal/strconv.uint64pow10", laid_internal_strconv_uint64pow10)], narrowed := true }
def LinearizeVerifyUptoSaid : Prop := linearizeVerifyUptoRow.holds Tryd.pinned (OpenSpec.upto linearizeVerifySpec)

/-- 'nurserylaw44.LinearizeApply', WHERE WHAT IT READS IS OF BULK AT MOST 1048576: true; the input reads as it did. -/
def linearizeApplyUptoRow : OpenClaim := { program := "ytmbkjccckmlacaadoor", sum := "15dde39b3110c380de7668466eed21f31d85ca1ec3cac9daa3549e99b2e482f0", func := "nursery/nurserylaw44.LinearizeApply", spec := "linearizeApply", inPlace := ["slices.overlaps[int]"], unfollowed := true, recurses := true, named := ["internal/strconv.uint64pow10", "math/bits.deBruijn32tab", "math/bits.deBruijn64tab"], apart := false, laid := [("math/bits.deBruijn32tab", laid_math_bits_deBruijn32tab), ("math/bits.deBruijn64tab", laid_math_bits_deBruijn64tab), ("internal/strconv.uint64pow10", laid_internal_strconv_uint64pow10)], narrowed := true }
def LinearizeApplyUptoSaid : Prop := linearizeApplyUptoRow.holds Tryd.pinned (OpenSpec.upto linearizeApplySpec)

/-- 'nurserylaw44.LinearizeFinds', WHERE WHAT IT READS IS OF BULK AT MOST 1048576: true; the input reads as it did. -/
def linearizeFindsUptoRow : OpenClaim := { program := "ytmbkjccckmlacaadoor", sum := "15dde39b3110c380de7668466eed21f31d85ca1ec3cac9daa3549e99b2e482f0", func := "nursery/nurserylaw44.LinearizeFinds", spec := "linearizeFinds", inPlace := ["slices.overlaps[int]"], unfollowed := true, recurses := true, named := ["internal/strconv.uint64pow10", "math/bits.deBruijn32tab", "math/bits.deBruijn64tab"], apart := false, laid := [("math/bits.deBruijn32tab", laid_math_bits_deBruijn32tab), ("math/bits.deBruijn64tab", laid_math_bits_deBruijn64tab), ("internal/strconv.uint64pow10", laid_internal_strconv_uint64pow10)], narrowed := true }
def LinearizeFindsUptoSaid : Prop := linearizeFindsUptoRow.holds Tryd.pinned (OpenSpec.upto linearizeFindsSpec)

/-- 'nurserylaw44.LinearizeSequential', WHERE WHAT IT READS IS OF BULK AT MOST 1048576: true; the input reads as it did. -/
def linearizeSequentialUptoRow : OpenClaim := { program := "ytmbkjccckmlacaadoor", sum := "15dde39b3110c380de7668466eed21f31d85ca1ec3cac9daa3549e99b2e482f0", func := "nursery/nurserylaw44.LinearizeSequential", spec := "linearizeSequential", inPlace := ["slices.overlaps[int]"], unfollowed := true, recurses := true, named := ["internal/strconv.uint64pow10", "math/bits.deBruijn32tab", "math/bits.deBruijn64tab"], apart := false, laid := [("math/bits.deBruijn32tab", laid_math_bits_deBruijn32tab), ("math/bits.deBruijn64tab", laid_math_bits_deBruijn64tab), ("internal/strconv.uint64pow10", laid_internal_strconv_uint64pow10)], narrowed := true }
def LinearizeSequentialUptoSaid : Prop := linearizeSequentialUptoRow.holds Tryd.pinned (OpenSpec.upto linearizeSequentialSpec)

/-- 'nurserylaw44.LinearizeExplains', WHERE WHAT IT READS IS OF BULK AT MOST 1048576: true; the input reads as it did. -/
def linearizeExplainsUptoRow : OpenClaim := { program := "ytmbkjccckmlacaadoor", sum := "15dde39b3110c380de7668466eed21f31d85ca1ec3cac9daa3549e99b2e482f0", func := "nursery/nurserylaw44.LinearizeExplains", spec := "linearizeExplains", inPlace := ["slices.overlaps[int]"], unfollowed := true, recurses := true, named := ["internal/strconv.uint64pow10", "math/bits.deBruijn32tab", "math/bits.deBruijn64tab"], apart := false, laid := [("math/bits.deBruijn32tab", laid_math_bits_deBruijn32tab), ("math/bits.deBruijn64tab", laid_math_bits_deBruijn64tab), ("internal/strconv.uint64pow10", laid_internal_strconv_uint64pow10)], narrowed := true }
def LinearizeExplainsUptoSaid : Prop := linearizeExplainsUptoRow.holds Tryd.pinned (OpenSpec.upto linearizeExplainsSpec)

end Rows
end Go.Proofs.YtmbkjccckmlacaaDoor
