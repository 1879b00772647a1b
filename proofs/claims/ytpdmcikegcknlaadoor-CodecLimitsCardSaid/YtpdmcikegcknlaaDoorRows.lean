/-
  NARROWER THAN 'FOR EVERY INPUT', by the rows' own cells (each row's printed sentence says how): CodecOrder: laid · CodecTexts: laid · CodecInts: laid · CodecDelimited: laid · CodecLists: laid · CodecRoundTrip: laid · CodecCanonical: laid · CodecLimits: laid.
  DERIVED. THE GIVEN ROWS OF THIS SEAT. 8 by the template 'for every input the law returns true; each argument reads behind the call as it read before'; 0 by the template 'total and deterministic' (their statements: YtpdmcikegcknlaaDoorTotals.lean).
  GIVEN WITH THE SEED: the statements are not yours to turn. If you find one false, say at which input.
  Laid BY PROGRAM, IN A SANDBOX (cutbox-rows.mjs): the forced cells as the released guide's own fill.sh prints them over the translation 34a0861cc7fbab46… (all of the seat's roots in one cut). By AI agents, Wed Nov 11 2026. No macro, syntax, notation, axiom, sorry.
-/
import Derived.Test.YtpdmcikegcknlaaDoorChecked
import GoSem.PinnedTables
import GoSem.Claim
import GoSem.ClaimJoined
import GoSem.ClaimMapViews
import Derived.JoinedTies
import Derived.KernelRfl
namespace Go.Proofs.YtpdmcikegcknlaaDoor
/- THE CELL 'sum', in the pinned program and in every row, IS THE sha256 OF THE DUMP (.gsa) THAT YtpdmcikegcknlaaDoorProg.lean LOADS. Nothing in Lean hashes anything: it is a label: what it is worth is what the hold of that sum in a sandbox is worth. -/
noncomputable def Tryd.pinned : Pinned := { name := "ytpdmcikegcknlaadoor", sum := "34a0861cc7fbab46842d6dc47f341d00bf966ec89534d36e750c6069bbec5523", checked := Tryd.checked }
namespace Rows
def none {H : Type} : Left H := { results := [], args := [] }

/- WHAT THE LISTED PACKAGE-LEVEL VARIABLES READ AS WHEN THE CALL BEGINS. Each datum BY PROGRAM (the guide's laid-datum.mjs) off the statement by which the dump's own 'gosem.cut.vars' lays the variable. In a bare row this is a premise. The card (YtpdmcikegcknlaaDoorCards.lean) ties it to the program's text. -/
def laid_unicode_utf8_acceptRanges {H : Type} : DataW H := .agg [.agg [.lit (.int .u8 128), .lit (.int .u8 191)], .agg [.lit (.int .u8 160), .lit (.int .u8 191)], .agg [.lit (.int .u8 128), .lit (.int .u8 159)], .agg [.lit (.int .u8 144), .lit (.int .u8 191)], .agg [.lit (.int .u8 128), .lit (.int .u8 143)], .agg [.lit (.int .u8 0), .lit (.int .u8 0)], .agg [.lit (.int .u8 0), .lit (.int .u8 0)], .agg [.lit (.int .u8 0), .lit (.int .u8 0)], .agg [.lit (.int .u8 0), .lit (.int .u8 0)], .agg [.lit (.int .u8 0), .lit (.int .u8 0)], .agg [.lit (.int .u8 0), .lit (.int .u8 0)], .agg [.lit (.int .u8 0), .lit (.int .u8 0)], .agg [.lit (.int .u8 0), .lit (.int .u8 0)], .agg [.lit (.int .u8 0), .lit (.int .u8 0)], .agg [.lit (.int .u8 0), .lit (.int .u8 0)], .agg [.lit (.int .u8 0), .lit (.int .u8 0)]]
/-- One of Go's own tables, pinned by name: the form's constant. -/
def laid_unicode_utf8_first : DataW Unit := Go.Pinned.utf8First

/-- 'nurserylaw01.CodecOrder': WHATEVER THE INPUT: true; the input reads as it did. -/
def codecOrderSpec : ChangeSpec := { name := "codecOrder", fn := fun _ => fun
  | [d1, d2, d3, d4] => { results := [.lit (.bool true)], args := [d1, d2, d3, d4] }
  | _ => none }
def codecOrderRow : OpenClaim := { program := "ytpdmcikegcknlaadoor", sum := "34a0861cc7fbab46842d6dc47f341d00bf966ec89534d36e750c6069bbec5523", func := "nursery/nurserylaw01.CodecOrder", spec := "codecOrder", inPlace := ["internal/bytealg.CountString", "internal/bytealg.IndexByteString", "internal/bytealg.IndexString", "internal/abi.NoEscape", "internal/bytealg.MakeNoZero", "internal/bytealg.abigen_runtime_cmpstring"], unfollowed := true, recurses := true, named := ["internal/bytealg.MaxLen", "unicode/utf8.first", "unicode/utf8.acceptRanges"], apart := false, laid := [("unicode/utf8.acceptRanges", laid_unicode_utf8_acceptRanges), ("unicode/utf8.first", laid_unicode_utf8_first)] }
def CodecOrderSaid : Prop := codecOrderRow.holds Tryd.pinned (OpenSpec.ofChange codecOrderSpec)

/-- ITS FALSE NEIGHBOUR: 'it returns false'. Refute it at one input. -/
def codecOrderWrong : ChangeSpec := { name := "codecOrder", fn := fun _ => fun
  | [d1, d2, d3, d4] => { results := [.lit (.bool false)], args := [d1, d2, d3, d4] }
  | _ => none }
def CodecOrderWrongFalsely : Prop := codecOrderRow.holds Tryd.pinned (OpenSpec.ofChange codecOrderWrong)

/-- 'nurserylaw01.CodecTexts': WHATEVER THE INPUT: true; the input reads as it did. -/
def codecTextsSpec : ChangeSpec := { name := "codecTexts", fn := fun _ => fun
  | [d1, d2] => { results := [.lit (.bool true)], args := [d1, d2] }
  | _ => none }
def codecTextsRow : OpenClaim := { program := "ytpdmcikegcknlaadoor", sum := "34a0861cc7fbab46842d6dc47f341d00bf966ec89534d36e750c6069bbec5523", func := "nursery/nurserylaw01.CodecTexts", spec := "codecTexts", inPlace := ["internal/bytealg.CountString", "internal/bytealg.IndexByteString", "internal/bytealg.IndexString", "internal/abi.NoEscape", "internal/bytealg.MakeNoZero"], unfollowed := true, recurses := true, named := ["internal/bytealg.MaxLen", "unicode/utf8.first", "unicode/utf8.acceptRanges"], apart := false, laid := [("unicode/utf8.acceptRanges", laid_unicode_utf8_acceptRanges), ("unicode/utf8.first", laid_unicode_utf8_first)] }
def CodecTextsSaid : Prop := codecTextsRow.holds Tryd.pinned (OpenSpec.ofChange codecTextsSpec)

/-- ITS FALSE NEIGHBOUR: 'it returns false'. Refute it at one input. -/
def codecTextsWrong : ChangeSpec := { name := "codecTexts", fn := fun _ => fun
  | [d1, d2] => { results := [.lit (.bool false)], args := [d1, d2] }
  | _ => none }
def CodecTextsWrongFalsely : Prop := codecTextsRow.holds Tryd.pinned (OpenSpec.ofChange codecTextsWrong)

/-- 'nurserylaw01.CodecInts': WHATEVER THE INPUT: true; the input reads as it did. -/
def codecIntsSpec : ChangeSpec := { name := "codecInts", fn := fun _ => fun
  | [d1, d2] => { results := [.lit (.bool true)], args := [d1, d2] }
  | _ => none }
def codecIntsRow : OpenClaim := { program := "ytpdmcikegcknlaadoor", sum := "34a0861cc7fbab46842d6dc47f341d00bf966ec89534d36e750c6069bbec5523", func := "nursery/nurserylaw01.CodecInts", spec := "codecInts", inPlace := ["internal/bytealg.CountString", "internal/bytealg.IndexByteString", "internal/bytealg.IndexString", "internal/abi.NoEscape", "internal/bytealg.MakeNoZero"], unfollowed := true, recurses := true, named := ["internal/bytealg.MaxLen", "unicode/utf8.first", "unicode/utf8.acceptRanges"], apart := false, laid := [("unicode/utf8.acceptRanges", laid_unicode_utf8_acceptRanges), ("unicode/utf8.first", laid_unicode_utf8_first)] }
def CodecIntsSaid : Prop := codecIntsRow.holds Tryd.pinned (OpenSpec.ofChange codecIntsSpec)

/-- ITS FALSE NEIGHBOUR: 'it returns false'. Refute it at one input. -/
def codecIntsWrong : ChangeSpec := { name := "codecInts", fn := fun _ => fun
  | [d1, d2] => { results := [.lit (.bool false)], args := [d1, d2] }
  | _ => none }
def CodecIntsWrongFalsely : Prop := codecIntsRow.holds Tryd.pinned (OpenSpec.ofChange codecIntsWrong)

/-- 'nurserylaw01.CodecDelimited': WHATEVER THE INPUT: true; the input reads as it did. -/
def codecDelimitedSpec : ChangeSpec := { name := "codecDelimited", fn := fun _ => fun
  | [d1, d2, d3, d4] => { results := [.lit (.bool true)], args := [d1, d2, d3, d4] }
  | _ => none }
def codecDelimitedRow : OpenClaim := { program := "ytpdmcikegcknlaadoor", sum := "34a0861cc7fbab46842d6dc47f341d00bf966ec89534d36e750c6069bbec5523", func := "nursery/nurserylaw01.CodecDelimited", spec := "codecDelimited", inPlace := ["internal/bytealg.CountString", "internal/bytealg.IndexByteString", "internal/bytealg.IndexString", "internal/abi.NoEscape", "internal/bytealg.MakeNoZero", "internal/bytealg.abigen_runtime_cmpstring"], unfollowed := true, recurses := true, named := ["internal/bytealg.MaxLen", "unicode/utf8.first", "unicode/utf8.acceptRanges"], apart := false, laid := [("unicode/utf8.acceptRanges", laid_unicode_utf8_acceptRanges), ("unicode/utf8.first", laid_unicode_utf8_first)] }
def CodecDelimitedSaid : Prop := codecDelimitedRow.holds Tryd.pinned (OpenSpec.ofChange codecDelimitedSpec)

/-- ITS FALSE NEIGHBOUR: 'it returns false'. Refute it at one input. -/
def codecDelimitedWrong : ChangeSpec := { name := "codecDelimited", fn := fun _ => fun
  | [d1, d2, d3, d4] => { results := [.lit (.bool false)], args := [d1, d2, d3, d4] }
  | _ => none }
def CodecDelimitedWrongFalsely : Prop := codecDelimitedRow.holds Tryd.pinned (OpenSpec.ofChange codecDelimitedWrong)

/-- 'nurserylaw01.CodecLists': WHATEVER THE INPUT: true; the input reads as it did. -/
def codecListsSpec : ChangeSpec := { name := "codecLists", fn := fun _ => fun
  | [d1, d2] => { results := [.lit (.bool true)], args := [d1, d2] }
  | _ => none }
def codecListsRow : OpenClaim := { program := "ytpdmcikegcknlaadoor", sum := "34a0861cc7fbab46842d6dc47f341d00bf966ec89534d36e750c6069bbec5523", func := "nursery/nurserylaw01.CodecLists", spec := "codecLists", inPlace := ["internal/bytealg.CountString", "internal/bytealg.IndexByteString", "internal/bytealg.IndexString", "internal/abi.NoEscape", "internal/bytealg.MakeNoZero"], unfollowed := true, recurses := true, named := ["internal/bytealg.MaxLen", "unicode/utf8.first", "unicode/utf8.acceptRanges"], apart := false, laid := [("unicode/utf8.acceptRanges", laid_unicode_utf8_acceptRanges), ("unicode/utf8.first", laid_unicode_utf8_first)] }
def CodecListsSaid : Prop := codecListsRow.holds Tryd.pinned (OpenSpec.ofChange codecListsSpec)

/-- ITS FALSE NEIGHBOUR: 'it returns false'. Refute it at one input. -/
def codecListsWrong : ChangeSpec := { name := "codecLists", fn := fun _ => fun
  | [d1, d2] => { results := [.lit (.bool false)], args := [d1, d2] }
  | _ => none }
def CodecListsWrongFalsely : Prop := codecListsRow.holds Tryd.pinned (OpenSpec.ofChange codecListsWrong)

/-- 'nurserylaw01.CodecRoundTrip': WHATEVER THE INPUT: true; the input reads as it did. -/
def codecRoundTripSpec : ChangeSpec := { name := "codecRoundTrip", fn := fun _ => fun
  | [d1, d2, d3] => { results := [.lit (.bool true)], args := [d1, d2, d3] }
  | _ => none }
def codecRoundTripRow : OpenClaim := { program := "ytpdmcikegcknlaadoor", sum := "34a0861cc7fbab46842d6dc47f341d00bf966ec89534d36e750c6069bbec5523", func := "nursery/nurserylaw01.CodecRoundTrip", spec := "codecRoundTrip", inPlace := ["internal/bytealg.CountString", "internal/bytealg.IndexByteString", "internal/bytealg.IndexString", "internal/abi.NoEscape", "internal/bytealg.MakeNoZero"], unfollowed := true, recurses := true, named := ["internal/bytealg.MaxLen", "unicode/utf8.first", "unicode/utf8.acceptRanges"], apart := false, laid := [("unicode/utf8.acceptRanges", laid_unicode_utf8_acceptRanges), ("unicode/utf8.first", laid_unicode_utf8_first)] }
def CodecRoundTripSaid : Prop := codecRoundTripRow.holds Tryd.pinned (OpenSpec.ofChange codecRoundTripSpec)

/-- ITS FALSE NEIGHBOUR: 'it returns false'. Refute it at one input. -/
def codecRoundTripWrong : ChangeSpec := { name := "codecRoundTrip", fn := fun _ => fun
  | [d1, d2, d3] => { results := [.lit (.bool false)], args := [d1, d2, d3] }
  | _ => none }
def CodecRoundTripWrongFalsely : Prop := codecRoundTripRow.holds Tryd.pinned (OpenSpec.ofChange codecRoundTripWrong)

/-- 'nurserylaw01.CodecCanonical': WHATEVER THE INPUT: true; the input reads as it did. -/
def codecCanonicalSpec : ChangeSpec := { name := "codecCanonical", fn := fun _ => fun
  | [d] => { results := [.lit (.bool true)], args := [d] }
  | _ => none }
def codecCanonicalRow : OpenClaim := { program := "ytpdmcikegcknlaadoor", sum := "34a0861cc7fbab46842d6dc47f341d00bf966ec89534d36e750c6069bbec5523", func := "nursery/nurserylaw01.CodecCanonical", spec := "codecCanonical", inPlace := ["internal/bytealg.CountString", "internal/bytealg.IndexByteString", "internal/bytealg.IndexString", "internal/abi.NoEscape", "internal/bytealg.MakeNoZero"], unfollowed := true, recurses := true, named := ["internal/bytealg.MaxLen", "unicode/utf8.first", "unicode/utf8.acceptRanges"], apart := false, laid := [("unicode/utf8.acceptRanges", laid_unicode_utf8_acceptRanges), ("unicode/utf8.first", laid_unicode_utf8_first)] }
def CodecCanonicalSaid : Prop := codecCanonicalRow.holds Tryd.pinned (OpenSpec.ofChange codecCanonicalSpec)

/-- ITS FALSE NEIGHBOUR: 'it returns false'. Refute it at one input. -/
def codecCanonicalWrong : ChangeSpec := { name := "codecCanonical", fn := fun _ => fun
  | [d] => { results := [.lit (.bool false)], args := [d] }
  | _ => none }
def CodecCanonicalWrongFalsely : Prop := codecCanonicalRow.holds Tryd.pinned (OpenSpec.ofChange codecCanonicalWrong)

/-- 'nurserylaw01.CodecLimits': WHATEVER THE INPUT: true; the input reads as it did. -/
def codecLimitsSpec : ChangeSpec := { name := "codecLimits", fn := fun _ => fun
  | [d1, d2, d3] => { results := [.lit (.bool true)], args := [d1, d2, d3] }
  | _ => none }
def codecLimitsRow : OpenClaim := { program := "ytpdmcikegcknlaadoor", sum := "34a0861cc7fbab46842d6dc47f341d00bf966ec89534d36e750c6069bbec5523", func := "nursery/nurserylaw01.CodecLimits", spec := "codecLimits", inPlace := ["internal/abi.NoEscape", "internal/bytealg.MakeNoZero", "internal/bytealg.CountString", "internal/bytealg.IndexByteString", "internal/bytealg.IndexString"], unfollowed := true, recurses := true, named := ["internal/bytealg.MaxLen", "unicode/utf8.first", "unicode/utf8.acceptRanges"], apart := false, laid := [("unicode/utf8.acceptRanges", laid_unicode_utf8_acceptRanges), ("unicode/utf8.first", laid_unicode_utf8_first)] }
def CodecLimitsSaid : Prop := codecLimitsRow.holds Tryd.pinned (OpenSpec.ofChange codecLimitsSpec)

/-- ITS FALSE NEIGHBOUR: 'it returns false'. Refute it at one input. -/
def codecLimitsWrong : ChangeSpec := { name := "codecLimits", fn := fun _ => fun
  | [d1, d2, d3] => { results := [.lit (.bool false)], args := [d1, d2, d3] }
  | _ => none }
def CodecLimitsWrongFalsely : Prop := codecLimitsRow.holds Tryd.pinned (OpenSpec.ofChange codecLimitsWrong)

/- THE SECOND FORM. 'bulk': how many values and letters a reading holds, each counted each time it is reached (what is shared counts as often as it is met; a slice's spare places count too). A statement '..UptoSaid' is the law's where the arguments, and the package variables that the reading takes, are together of bulk at most 1048576: NARROWER than '..Said'. Prove '..Said' where nothing that the law and all that it calls make is longer than what came in: it says more and counts as full. Else prove '..UptoSaid'. A law counts once. -/
mutual
def uptoBulk {H : Type} : DataW H → Nat
  | .lit (.string bytes) => bytes.length + 1
  | .lit _ => 1
  | .nil => 1
  | .ptr d => uptoBulk d + 1
  | .slice elems spare => uptoBulkAll elems + uptoBulkAll spare + 1
  | .agg parts => uptoBulkAll parts + 1
  | .iface _ d => uptoBulk d + 1
  | .map entries => uptoBulkEntries entries + 1
  | .held _ => 1
def uptoBulkAll {H : Type} : List (DataW H) → Nat
  | [] => 0
  | d :: r => uptoBulk d + uptoBulkAll r
def uptoBulkEntries {H : Type} : List (Lit × DataW H) → Nat
  | [] => 0
  | x :: r => uptoBulkEntry x + uptoBulkEntries r
def uptoBulkEntry {H : Type} : Lit × DataW H → Nat
  | (.string bytes, d) => bytes.length + uptoBulk d + 1
  | (_, d) => uptoBulk d + 1
 end
def uptoSmall : (H : Type) → List (DataW H) → Bool := fun _ ds => decide (uptoBulkAll ds ≤ 1048576)
def OpenSpec.upto (s : _root_.Go.ChangeSpec) : _root_.Go.OpenSpec := { _root_.Go.OpenSpec.ofChange s with cond := some uptoSmall }

/-- 'nurserylaw01.CodecOrder', WHERE WHAT IT READS IS OF BULK AT MOST 1048576: true; the input reads as it did. -/
def codecOrderUptoRow : OpenClaim := { program := "ytpdmcikegcknlaadoor", sum := "34a0861cc7fbab46842d6dc47f341d00bf966ec89534d36e750c6069bbec5523", func := "nursery/nurserylaw01.CodecOrder", spec := "codecOrder", inPlace := ["internal/bytealg.CountString", "internal/bytealg.IndexByteString", "internal/bytealg.IndexString", "internal/abi.NoEscape", "internal/bytealg.MakeNoZero", "internal/bytealg.abigen_runtime_cmpstring"], unfollowed := true, recurses := true, named := ["internal/bytealg.MaxLen", "unicode/utf8.first", "unicode/utf8.acceptRanges"], apart := false, laid := [("unicode/utf8.acceptRanges", laid_unicode_utf8_acceptRanges), ("unicode/utf8.first", laid_unicode_utf8_first)], narrowed := true }
def CodecOrderUptoSaid : Prop := codecOrderUptoRow.holds Tryd.pinned (OpenSpec.upto codecOrderSpec)

/-- 'nurserylaw01.CodecTexts', WHERE WHAT IT READS IS OF BULK AT MOST 1048576: true; the input reads as it did. -/
def codecTextsUptoRow : OpenClaim := { program := "ytpdmcikegcknlaadoor", sum := "34a0861cc7fbab46842d6dc47f341d00bf966ec89534d36e750c6069bbec5523", func := "nursery/nurserylaw01.CodecTexts", spec := "codecTexts", inPlace := ["internal/bytealg.CountString", "internal/bytealg.IndexByteString", "internal/bytealg.IndexString", "internal/abi.NoEscape", "internal/bytealg.MakeNoZero"], unfollowed := true, recurses := true, named := ["internal/bytealg.MaxLen", "unicode/utf8.first", "unicode/utf8.acceptRanges"], apart := false, laid := [("unicode/utf8.acceptRanges", laid_unicode_utf8_acceptRanges), ("unicode/utf8.first", laid_unicode_utf8_first)], narrowed := true }
def CodecTextsUptoSaid : Prop := codecTextsUptoRow.holds Tryd.pinned (OpenSpec.upto codecTextsSpec)

/-- 'nurserylaw01.CodecInts', WHERE WHAT IT READS IS OF BULK AT MOST 1048576: true; the input reads as it did. -/
def codecIntsUptoRow : OpenClaim := { program := "ytpdmcikegcknlaadoor", sum := "34a0861cc7fbab46842d6dc47f341d00bf966ec89534d36e750c6069bbec5523", func := "nursery/nurserylaw01.CodecInts", spec := "codecInts", inPlace := ["internal/bytealg.CountString", "internal/bytealg.IndexByteString", "internal/bytealg.IndexString", "internal/abi.NoEscape", "internal/bytealg.MakeNoZero"], unfollowed := true, recurses := true, named := ["internal/bytealg.MaxLen", "unicode/utf8.first", "unicode/utf8.acceptRanges"], apart := false, laid := [("unicode/utf8.acceptRanges", laid_unicode_utf8_acceptRanges), ("unicode/utf8.first", laid_unicode_utf8_first)], narrowed := true }
def CodecIntsUptoSaid : Prop := codecIntsUptoRow.holds Tryd.pinned (OpenSpec.upto codecIntsSpec)

/-- 'nurserylaw01.CodecDelimited', WHERE WHAT IT READS IS OF BULK AT MOST 1048576: true; the input reads as it did. -/
def codecDelimitedUptoRow : OpenClaim := { program := "ytpdmcikegcknlaadoor", sum := "34a0861cc7fbab46842d6dc47f341d00bf966ec89534d36e750c6069bbec5523", func := "nursery/nurserylaw01.CodecDelimited", spec := "codecDelimited", inPlace := ["internal/bytealg.CountString", "internal/bytealg.IndexByteString", "internal/bytealg.IndexString", "internal/abi.NoEscape", "internal/bytealg.MakeNoZero", "internal/bytealg.abigen_runtime_cmpstring"], unfollowed := true, recurses := true, named := ["internal/bytealg.MaxLen", "unicode/utf8.first", "unicode/utf8.acceptRanges"], apart := false, laid := [("unicode/utf8.acceptRanges", laid_unicode_utf8_acceptRanges), ("unicode/utf8.first", laid_unicode_utf8_first)], narrowed := true }
def CodecDelimitedUptoSaid : Prop := codecDelimitedUptoRow.holds Tryd.pinned (OpenSpec.upto codecDelimitedSpec)

/-- 'nurserylaw01.CodecLists', WHERE WHAT IT READS IS OF BULK AT MOST 1048576: true; the input reads as it did. -/
def codecListsUptoRow : OpenClaim := { program := "ytpdmcikegcknlaadoor", sum := "34a0861cc7fbab46842d6dc47f341d00bf966ec89534d36e750c6069bbec5523", func := "nursery/nurserylaw01.CodecLists", spec := "codecLists", inPlace := ["internal/bytealg.CountString", "internal/bytealg.IndexByteString", "internal/bytealg.IndexString", "internal/abi.NoEscape", "internal/bytealg.MakeNoZero"], unfollowed := true, recurses := true, named := ["internal/bytealg.MaxLen", "unicode/utf8.first", "unicode/utf8.acceptRanges"], apart := false, laid := [("unicode/utf8.acceptRanges", laid_unicode_utf8_acceptRanges), ("unicode/utf8.first", laid_unicode_utf8_first)], narrowed := true }
def CodecListsUptoSaid : Prop := codecListsUptoRow.holds Tryd.pinned (OpenSpec.upto codecListsSpec)

/-- 'nurserylaw01.CodecRoundTrip', WHERE WHAT IT READS IS OF BULK AT MOST 1048576: true; the input reads as it did. -/
def codecRoundTripUptoRow : OpenClaim := { program := "ytpdmcikegcknlaadoor", sum := "34a0861cc7fbab46842d6dc47f341d00bf966ec89534d36e750c6069bbec5523", func := "nursery/nurserylaw01.CodecRoundTrip", spec := "codecRoundTrip", inPlace := ["internal/bytealg.CountString", "internal/bytealg.IndexByteString", "internal/bytealg.IndexString", "internal/abi.NoEscape", "internal/bytealg.MakeNoZero"], unfollowed := true, recurses := true, named := ["internal/bytealg.MaxLen", "unicode/utf8.first", "unicode/utf8.acceptRanges"], apart := false, laid := [("unicode/utf8.acceptRanges", laid_unicode_utf8_acceptRanges), ("unicode/utf8.first", laid_unicode_utf8_first)], narrowed := true }
def CodecRoundTripUptoSaid : Prop := codecRoundTripUptoRow.holds Tryd.pinned (OpenSpec.upto codecRoundTripSpec)

/-- 'nurserylaw01.CodecCanonical', WHERE WHAT IT READS IS OF BULK AT MOST 1048576: true; the input reads as it did. -/
def codecCanonicalUptoRow : OpenClaim := { program := "ytpdmcikegcknlaadoor", sum := "34a0861cc7fbab46842d6dc47f341d00bf966ec89534d36e750c6069bbec5523", func := "nursery/nurserylaw01.CodecCanonical", spec := "codecCanonical", inPlace := ["internal/bytealg.CountString", "internal/bytealg.IndexByteString", "internal/bytealg.IndexString", "internal/abi.NoEscape", "internal/bytealg.MakeNoZero"], unfollowed := true, recurses := true, named := ["internal/bytealg.MaxLen", "unicode/utf8.first", "unicode/utf8.acceptRanges"], apart := false, laid := [("unicode/utf8.acceptRanges", laid_unicode_utf8_acceptRanges), ("unicode/utf8.first", laid_unicode_utf8_first)], narrowed := true }
def CodecCanonicalUptoSaid : Prop := codecCanonicalUptoRow.holds Tryd.pinned (OpenSpec.upto codecCanonicalSpec)

/-- 'nurserylaw01.CodecLimits', WHERE WHAT IT READS IS OF BULK AT MOST 1048576: true; the input reads as it did. -/
def codecLimitsUptoRow : OpenClaim := { program := "ytpdmcikegcknlaadoor", sum := "34a0861cc7fbab46842d6dc47f341d00bf966ec89534d36e750c6069bbec5523", func := "nursery/nurserylaw01.CodecLimits", spec := "codecLimits", inPlace := ["internal/abi.NoEscape", "internal/bytealg.MakeNoZero", "internal/bytealg.CountString", "internal/bytealg.IndexByteString", "internal/bytealg.IndexString"], unfollowed := true, recurses := true, named := ["internal/bytealg.MaxLen", "unicode/utf8.first", "unicode/utf8.acceptRanges"], apart := false, laid := [("unicode/utf8.acceptRanges", laid_unicode_utf8_acceptRanges), ("unicode/utf8.first", laid_unicode_utf8_first)], narrowed := true }
def CodecLimitsUptoSaid : Prop := codecLimitsUptoRow.holds Tryd.pinned (OpenSpec.upto codecLimitsSpec)

end Rows
end Go.Proofs.YtpdmcikegcknlaaDoor
