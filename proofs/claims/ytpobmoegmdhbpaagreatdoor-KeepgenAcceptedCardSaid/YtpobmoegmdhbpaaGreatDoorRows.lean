/-
  NARROWER THAN 'FOR EVERY INPUT', by the rows' own cells (each row's printed sentence says how): KeepgenAccepted: loops, laid · CleangenFails: loops, laid · CleangenRuns: loops, laid · CleangenUndoes: loops, laid · KeepgenGarbage: loops, laid · KeepgenKeeps: loops, laid · KeepgenClears: loops, laid.
  DERIVED. THE GIVEN ROWS OF THIS SEAT. 7 by the template 'for every input the law returns true; each argument reads behind the call as it read before'; 0 by the template 'total and deterministic' (their statements: YtpobmoegmdhbpaaGreatDoorTotals.lean).
  GIVEN WITH THE SEED: the statements are not yours to turn. If you find one false, say at which input.
  Laid BY PROGRAM, IN A SANDBOX (cutbox-rows.mjs): the forced cells as the released guide's own fill.sh prints them over the translation aa1cecdabe9d203d… (all of the seat's roots in one cut). By AI agents, Wed Nov 11 2026. No macro, syntax, notation, axiom, sorry.
-/
import Derived.Test.YtpobmoegmdhbpaaGreatDoorChecked
import GoSem.Claim
import GoSem.ClaimJoined
import GoSem.ClaimMapViews
import Derived.JoinedTies
import Derived.KernelRfl
namespace Go.Proofs.YtpobmoegmdhbpaaGreatDoor
/- THE CELL 'sum', in the pinned program and in every row, IS THE sha256 OF THE DUMP (.gsa) THAT YtpobmoegmdhbpaaGreatDoorProg.lean LOADS. Nothing in Lean hashes anything: it is a label: what it is worth is what the hold of that sum in a sandbox is worth. -/
noncomputable def Tryz.pinned : Pinned := { name := "ytpobmoegmdhbpaagreatdoor", sum := "aa1cecdabe9d203dcf45627bd5df0b49903aa19ec0ee62e6b98aadde999a9106", checked := Tryz.checked }
namespace Rows
def none {H : Type} : Left H := { results := [], args := [] }

/- WHAT THE LISTED PACKAGE-LEVEL VARIABLES READ AS WHEN THE CALL BEGINS. Each datum BY PROGRAM (the guide's laid-datum.mjs) off the statement by which the dump's own 'gosem.cut.vars' lays the variable. In a bare row this is a premise. The card (YtpobmoegmdhbpaaGreatDoorCards.lean) ties it to the program's text. -/
def laid_math_bits_deBruijn32tab {H : Type} : DataW H := .agg [.lit (.int .u8 0), .lit (.int .u8 1), .lit (.int .u8 28), .lit (.int .u8 2), .lit (.int .u8 29), .lit (.int .u8 14), .lit (.int .u8 24), .lit (.int .u8 3), .lit (.int .u8 30), .lit (.int .u8 22), .lit (.int .u8 20), .lit (.int .u8 15), .lit (.int .u8 25), .lit (.int .u8 17), .lit (.int .u8 4), .lit (.int .u8 8), .lit (.int .u8 31), .lit (.int .u8 27), .lit (.int .u8 13), .lit (.int .u8 23), .lit (.int .u8 21), .lit (.int .u8 19), .lit (.int .u8 16), .lit (.int .u8 7), .lit (.int .u8 26), .lit (.int .u8 12), .lit (.int .u8 18), .lit (.int .u8 6), .lit (.int .u8 11), .lit (.int .u8 5), .lit (.int .u8 10), .lit (.int .u8 9)]
def laid_math_bits_deBruijn64tab {H : Type} : DataW H := .agg [.lit (.int .u8 0), .lit (.int .u8 1), .lit (.int .u8 56), .lit (.int .u8 2), .lit (.int .u8 57), .lit (.int .u8 49), .lit (.int .u8 28), .lit (.int .u8 3), .lit (.int .u8 61), .lit (.int .u8 58), .lit (.int .u8 42), .lit (.int .u8 50), .lit (.int .u8 38), .lit (.int .u8 29), .lit (.int .u8 17), .lit (.int .u8 4), .lit (.int .u8 62), .lit (.int .u8 47), .lit (.int .u8 59), .lit (.int .u8 36), .lit (.int .u8 45), .lit (.int .u8 43), .lit (.int .u8 51), .lit (.int .u8 22), .lit (.int .u8 53), .lit (.int .u8 39), .lit (.int .u8 33), .lit (.int .u8 30), .lit (.int .u8 24), .lit (.int .u8 18), .lit (.int .u8 12), .lit (.int .u8 5), .lit (.int .u8 63), .lit (.int .u8 55), .lit (.int .u8 48), .lit (.int .u8 27), .lit (.int .u8 60), .lit (.int .u8 41), .lit (.int .u8 37), .lit (.int .u8 16), .lit (.int .u8 46), .lit (.int .u8 35), .lit (.int .u8 44), .lit (.int .u8 21), .lit (.int .u8 52), .lit (.int .u8 32), .lit (.int .u8 23), .lit (.int .u8 11), .lit (.int .u8 54), .lit (.int .u8 26), .lit (.int .u8 40), .lit (.int .u8 15), .lit (.int .u8 34), .lit (.int .u8 20), .lit (.int .u8 31), .lit (.int .u8 10), .lit (.int .u8 25), .lit (.int .u8 14), .lit (.int .u8 19), .lit (.int .u8 9), .lit (.int .u8 13), .lit (.int .u8 8), .lit (.int .u8 7), .lit (.int .u8 6)]
def laid_internal_strconv_uint64pow10 {H : Type} : DataW H := .agg [.lit (.int .u64 1), .lit (.int .u64 10), .lit (.int .u64 100), .lit (.int .u64 1000), .lit (.int .u64 10000), .lit (.int .u64 100000), .lit (.int .u64 1000000), .lit (.int .u64 10000000), .lit (.int .u64 100000000), .lit (.int .u64 1000000000), .lit (.int .u64 10000000000), .lit (.int .u64 100000000000), .lit (.int .u64 1000000000000), .lit (.int .u64 10000000000000), .lit (.int .u64 100000000000000), .lit (.int .u64 1000000000000000), .lit (.int .u64 10000000000000000), .lit (.int .u64 100000000000000000), .lit (.int .u64 1000000000000000000), .lit (.int .u64 10000000000000000000)]

/-- 'backsteplaw41.KeepgenAccepted': WHATEVER THE INPUT: true; the input reads as it did. -/
def keepgenAcceptedSpec : ChangeSpec := { name := "keepgenAccepted", fn := fun _ => fun
  | [d1, d2] => { results := [.lit (.bool true)], args := [d1, d2] }
  | _ => none }
def keepgenAcceptedRow : OpenClaim := { program := "ytpobmoegmdhbpaagreatdoor", sum := "aa1cecdabe9d203dcf45627bd5df0b49903aa19ec0ee62e6b98aadde999a9106", func := "backstep/backsteplaw41.KeepgenAccepted", spec := "keepgenAccepted", inPlace := ["internal/bytealg.IndexByteString"], unfollowed := true, recurses := true, named := ["internal/strconv.uint64pow10", "math/bits.deBruijn32tab", "math/bits.deBruijn64tab"], loops := true, apart := false, laid := [("math/bits.deBruijn32tab", laid_math_bits_deBruijn32tab), ("math/bits.deBruijn64tab", laid_math_bits_deBruijn64tab), ("internal/strconv.uint64pow10", laid_internal_strconv_uint64pow10)] }
def KeepgenAcceptedSaid : Prop := keepgenAcceptedRow.holds Tryz.pinned (OpenSpec.ofChange keepgenAcceptedSpec)

/-- ITS FALSE NEIGHBOUR: 'it returns false'. Refute it at one input. -/
def keepgenAcceptedWrong : ChangeSpec := { name := "keepgenAccepted", fn := fun _ => fun
  | [d1, d2] => { results := [.lit (.bool false)], args := [d1, d2] }
  | _ => none }
def KeepgenAcceptedWrongFalsely : Prop := keepgenAcceptedRow.holds Tryz.pinned (OpenSpec.ofChange keepgenAcceptedWrong)

/-- 'backsteplaw40.CleangenFails': WHATEVER THE INPUT: true; the input reads as it did. -/
def cleangenFailsSpec : ChangeSpec := { name := "cleangenFails", fn := fun _ => fun
  | [d1, d2, d3] => { results := [.lit (.bool true)], args := [d1, d2, d3] }
  | _ => none }
def cleangenFailsRow : OpenClaim := { program := "ytpobmoegmdhbpaagreatdoor", sum := "aa1cecdabe9d203dcf45627bd5df0b49903aa19ec0ee62e6b98aadde999a9106", func := "backstep/backsteplaw40.CleangenFails", spec := "cleangenFails", inPlace := ["internal/bytealg.IndexByteString", "maps.clone", "slices.overlaps[int]"], unfollowed := true, recurses := true, named := ["internal/strconv.uint64pow10", "math/bits.deBruijn32tab", "math/bits.deBruijn64tab"], loops := true, apart := false, laid := [("math/bits.deBruijn32tab", laid_math_bits_deBruijn32tab), ("math/bits.deBruijn64tab", laid_math_bits_deBruijn64tab), ("internal/strconv.uint64pow10", laid_internal_strconv_uint64pow10)] }
def CleangenFailsSaid : Prop := cleangenFailsRow.holds Tryz.pinned (OpenSpec.ofChange cleangenFailsSpec)

/-- ITS FALSE NEIGHBOUR: 'it returns false'. Refute it at one input. -/
def cleangenFailsWrong : ChangeSpec := { name := "cleangenFails", fn := fun _ => fun
  | [d1, d2, d3] => { results := [.lit (.bool false)], args := [d1, d2, d3] }
  | _ => none }
def CleangenFailsWrongFalsely : Prop := cleangenFailsRow.holds Tryz.pinned (OpenSpec.ofChange cleangenFailsWrong)

/-- 'backsteplaw40.CleangenRuns': WHATEVER THE INPUT: true; the input reads as it did. -/
def cleangenRunsSpec : ChangeSpec := { name := "cleangenRuns", fn := fun _ => fun
  | [d1, d2, d3] => { results := [.lit (.bool true)], args := [d1, d2, d3] }
  | _ => none }
def cleangenRunsRow : OpenClaim := { program := "ytpobmoegmdhbpaagreatdoor", sum := "aa1cecdabe9d203dcf45627bd5df0b49903aa19ec0ee62e6b98aadde999a9106", func := "backstep/backsteplaw40.CleangenRuns", spec := "cleangenRuns", inPlace := ["internal/bytealg.IndexByteString", "maps.clone", "slices.overlaps[int]"], unfollowed := true, recurses := true, named := ["internal/strconv.uint64pow10", "math/bits.deBruijn32tab", "math/bits.deBruijn64tab"], loops := true, apart := false, laid := [("math/bits.deBruijn32tab", laid_math_bits_deBruijn32tab), ("math/bits.deBruijn64tab", laid_math_bits_deBruijn64tab), ("internal/strconv.uint64pow10", laid_internal_strconv_uint64pow10)] }
def CleangenRunsSaid : Prop := cleangenRunsRow.holds Tryz.pinned (OpenSpec.ofChange cleangenRunsSpec)

/-- ITS FALSE NEIGHBOUR: 'it returns false'. Refute it at one input. -/
def cleangenRunsWrong : ChangeSpec := { name := "cleangenRuns", fn := fun _ => fun
  | [d1, d2, d3] => { results := [.lit (.bool false)], args := [d1, d2, d3] }
  | _ => none }
def CleangenRunsWrongFalsely : Prop := cleangenRunsRow.holds Tryz.pinned (OpenSpec.ofChange cleangenRunsWrong)

/-- 'backsteplaw40.CleangenUndoes': WHATEVER THE INPUT: true; the input reads as it did. -/
def cleangenUndoesSpec : ChangeSpec := { name := "cleangenUndoes", fn := fun _ => fun
  | [d1, d2, d3, d4] => { results := [.lit (.bool true)], args := [d1, d2, d3, d4] }
  | _ => none }
def cleangenUndoesRow : OpenClaim := { program := "ytpobmoegmdhbpaagreatdoor", sum := "aa1cecdabe9d203dcf45627bd5df0b49903aa19ec0ee62e6b98aadde999a9106", func := "backstep/backsteplaw40.CleangenUndoes", spec := "cleangenUndoes", inPlace := ["internal/bytealg.IndexByteString", "maps.clone", "slices.overlaps[int]"], unfollowed := true, recurses := true, named := ["internal/strconv.uint64pow10", "math/bits.deBruijn32tab", "math/bits.deBruijn64tab"], loops := true, apart := false, laid := [("math/bits.deBruijn32tab", laid_math_bits_deBruijn32tab), ("math/bits.deBruijn64tab", laid_math_bits_deBruijn64tab), ("internal/strconv.uint64pow10", laid_internal_strconv_uint64pow10)] }
def CleangenUndoesSaid : Prop := cleangenUndoesRow.holds Tryz.pinned (OpenSpec.ofChange cleangenUndoesSpec)

/-- ITS FALSE NEIGHBOUR: 'it returns false'. Refute it at one input. -/
def cleangenUndoesWrong : ChangeSpec := { name := "cleangenUndoes", fn := fun _ => fun
  | [d1, d2, d3, d4] => { results := [.lit (.bool false)], args := [d1, d2, d3, d4] }
  | _ => none }
def CleangenUndoesWrongFalsely : Prop := cleangenUndoesRow.holds Tryz.pinned (OpenSpec.ofChange cleangenUndoesWrong)

/-- 'backsteplaw41.KeepgenGarbage': WHATEVER THE INPUT: true; the input reads as it did. -/
def keepgenGarbageSpec : ChangeSpec := { name := "keepgenGarbage", fn := fun _ => fun
  | [d1, d2, d3] => { results := [.lit (.bool true)], args := [d1, d2, d3] }
  | _ => none }
def keepgenGarbageRow : OpenClaim := { program := "ytpobmoegmdhbpaagreatdoor", sum := "aa1cecdabe9d203dcf45627bd5df0b49903aa19ec0ee62e6b98aadde999a9106", func := "backstep/backsteplaw41.KeepgenGarbage", spec := "keepgenGarbage", inPlace := ["internal/bytealg.IndexByteString", "slices.overlaps[int]"], unfollowed := true, recurses := true, named := ["internal/strconv.uint64pow10", "math/bits.deBruijn32tab", "math/bits.deBruijn64tab"], loops := true, apart := false, laid := [("math/bits.deBruijn32tab", laid_math_bits_deBruijn32tab), ("math/bits.deBruijn64tab", laid_math_bits_deBruijn64tab), ("internal/strconv.uint64pow10", laid_internal_strconv_uint64pow10)] }
def KeepgenGarbageSaid : Prop := keepgenGarbageRow.holds Tryz.pinned (OpenSpec.ofChange keepgenGarbageSpec)

/-- ITS FALSE NEIGHBOUR: 'it returns false'. Refute it at one input. -/
def keepgenGarbageWrong : ChangeSpec := { name := "keepgenGarbage", fn := fun _ => fun
  | [d1, d2, d3] => { results := [.lit (.bool false)], args := [d1, d2, d3] }
  | _ => none }
def KeepgenGarbageWrongFalsely : Prop := keepgenGarbageRow.holds Tryz.pinned (OpenSpec.ofChange keepgenGarbageWrong)

/-- 'backsteplaw41.KeepgenKeeps': WHATEVER THE INPUT: true; the input reads as it did. -/
def keepgenKeepsSpec : ChangeSpec := { name := "keepgenKeeps", fn := fun _ => fun
  | [d1, d2, d3, d4, d5] => { results := [.lit (.bool true)], args := [d1, d2, d3, d4, d5] }
  | _ => none }
def keepgenKeepsRow : OpenClaim := { program := "ytpobmoegmdhbpaagreatdoor", sum := "aa1cecdabe9d203dcf45627bd5df0b49903aa19ec0ee62e6b98aadde999a9106", func := "backstep/backsteplaw41.KeepgenKeeps", spec := "keepgenKeeps", inPlace := ["internal/bytealg.IndexByteString", "maps.clone", "slices.overlaps[int]"], unfollowed := true, recurses := true, named := ["internal/strconv.uint64pow10", "math/bits.deBruijn32tab", "math/bits.deBruijn64tab"], loops := true, apart := false, laid := [("math/bits.deBruijn32tab", laid_math_bits_deBruijn32tab), ("math/bits.deBruijn64tab", laid_math_bits_deBruijn64tab), ("internal/strconv.uint64pow10", laid_internal_strconv_uint64pow10)] }
def KeepgenKeepsSaid : Prop := keepgenKeepsRow.holds Tryz.pinned (OpenSpec.ofChange keepgenKeepsSpec)

/-- ITS FALSE NEIGHBOUR: 'it returns false'. Refute it at one input. -/
def keepgenKeepsWrong : ChangeSpec := { name := "keepgenKeeps", fn := fun _ => fun
  | [d1, d2, d3, d4, d5] => { results := [.lit (.bool false)], args := [d1, d2, d3, d4, d5] }
  | _ => none }
def KeepgenKeepsWrongFalsely : Prop := keepgenKeepsRow.holds Tryz.pinned (OpenSpec.ofChange keepgenKeepsWrong)

/-- 'backsteplaw41.KeepgenClears': WHATEVER THE INPUT: true; the input reads as it did. -/
def keepgenClearsSpec : ChangeSpec := { name := "keepgenClears", fn := fun _ => fun
  | [d1, d2, d3, d4] => { results := [.lit (.bool true)], args := [d1, d2, d3, d4] }
  | _ => none }
def keepgenClearsRow : OpenClaim := { program := "ytpobmoegmdhbpaagreatdoor", sum := "aa1cecdabe9d203dcf45627bd5df0b49903aa19ec0ee62e6b98aadde999a9106", func := "backstep/backsteplaw41.KeepgenClears", spec := "keepgenClears", inPlace := ["internal/bytealg.IndexByteString", "maps.clone", "slices.overlaps[int]"], unfollowed := true, recurses := true, named := ["internal/strconv.uint64pow10", "math/bits.deBruijn32tab", "math/bits.deBruijn64tab"], loops := true, apart := false, laid := [("math/bits.deBruijn32tab", laid_math_bits_deBruijn32tab), ("math/bits.deBruijn64tab", laid_math_bits_deBruijn64tab), ("internal/strconv.uint64pow10", laid_internal_strconv_uint64pow10)] }
def KeepgenClearsSaid : Prop := keepgenClearsRow.holds Tryz.pinned (OpenSpec.ofChange keepgenClearsSpec)

/-- ITS FALSE NEIGHBOUR: 'it returns false'. Refute it at one input. -/
def keepgenClearsWrong : ChangeSpec := { name := "keepgenClears", fn := fun _ => fun
  | [d1, d2, d3, d4] => { results := [.lit (.bool false)], args := [d1, d2, d3, d4] }
  | _ => none }
def KeepgenClearsWrongFalsely : Prop := keepgenClearsRow.holds Tryz.pinned (OpenSpec.ofChange keepgenClearsWrong)

/- THE SECOND FORM. 'bulk': how many values and letters a reading holds, each counted each time it is reached (what is shared counts as often as it is met; a slice's spare places count too). A statement '..UptoSaid' is the law's where the arguments, and the package variables that the reading takes, are together of bulk at most 1048576: NARROWER than '..Said'. Prove '..Said' where nothing that the law and all that it calls make is longer than what came in: it says more and counts as full. Else prove '..UptoSaid'. A law counts once. -/
mutual
def uptoBulk {H : Type} : DataW H → Nat
  | .lit (.string bytes) => bytes.length + 1
  | .lit _ => 1
  | .nil => 1
  | .ptr d => uptoBulk d + 1
  | .slice elems spare => uptoBulkAll elems + uptoBulkAll spare + 1
  | .agg parts => uptoBulkAll parts + 1
  | .iface _ d => uptoBulk d + 1
  | .map entries => uptoBulkEntries entries + 1
  | .held _ => 1
def uptoBulkAll {H : Type} : List (DataW H) → Nat
  | [] => 0
  | d :: r => uptoBulk d + uptoBulkAll r
def uptoBulkEntries {H : Type} : List (Lit × DataW H) → Nat
  | [] => 0
  | x :: r => uptoBulkEntry x + uptoBulkEntries r
def uptoBulkEntry {H : Type} : Lit × DataW H → Nat
  | (.string bytes, d) => bytes.length + uptoBulk d + 1
  | (_, d) => uptoBulk d + 1
 end
def uptoSmall : (H : Type) → List (DataW H) → Bool := fun _ ds => decide (uptoBulkAll ds ≤ 1048576)
def OpenSpec.upto (s : _root_.Go.ChangeSpec) : _root_.Go.OpenSpec := { _root_.Go.OpenSpec.ofChange s with cond := some uptoSmall }

/-- 'backsteplaw41.KeepgenAccepted', WHERE WHAT IT READS IS OF BULK AT MOST 1048576: true; the input reads as it did. -/
def keepgenAcceptedUptoRow : OpenClaim := { program := "ytpobmoegmdhbpaagreatdoor", sum := "aa1cecdabe9d203dcf45627bd5df0b49903aa19ec0ee62e6b98aadde999a9106", func := "backstep/backsteplaw41.KeepgenAccepted", spec := "keepgenAccepted", inPlace := ["internal/bytealg.IndexByteString"], unfollowed := true, recurses := true, named := ["internal/strconv.uint64pow10", "math/bits.deBruijn32tab", "math/bits.deBruijn64tab"], loops := true, apart := false, laid := [("math/bits.deBruijn32tab", laid_math_bits_deBruijn32tab), ("math/bits.deBruijn64tab", laid_math_bits_deBruijn64tab), ("internal/strconv.uint64pow10", laid_internal_strconv_uint64pow10)], narrowed := true }
def KeepgenAcceptedUptoSaid : Prop := keepgenAcceptedUptoRow.holds Tryz.pinned (OpenSpec.upto keepgenAcceptedSpec)

/-- 'backsteplaw40.CleangenFails', WHERE WHAT IT READS IS OF BULK AT MOST 1048576: true; the input reads as it did. -/
def cleangenFailsUptoRow : OpenClaim := { program := "ytpobmoegmdhbpaagreatdoor", sum := "aa1cecdabe9d203dcf45627bd5df0b49903aa19ec0ee62e6b98aadde999a9106", func := "backstep/backsteplaw40.CleangenFails", spec := "cleangenFails", inPlace := ["internal/bytealg.IndexByteString", "maps.clone", "slices.overlaps[int]"], unfollowed := true, recurses := true, named := ["internal/strconv.uint64pow10", "math/bits.deBruijn32tab", "math/bits.deBruijn64tab"], loops := true, apart := false, laid := [("math/bits.deBruijn32tab", laid_math_bits_deBruijn32tab), ("math/bits.deBruijn64tab", laid_math_bits_deBruijn64tab), ("internal/strconv.uint64pow10", laid_internal_strconv_uint64pow10)], narrowed := true }
def CleangenFailsUptoSaid : Prop := cleangenFailsUptoRow.holds Tryz.pinned (OpenSpec.upto cleangenFailsSpec)

/-- 'backsteplaw40.CleangenRuns', WHERE WHAT IT READS IS OF BULK AT MOST 1048576: true; the input reads as it did. -/
def cleangenRunsUptoRow : OpenClaim := { program := "ytpobmoegmdhbpaagreatdoor", sum := "aa1cecdabe9d203dcf45627bd5df0b49903aa19ec0ee62e6b98aadde999a9106", func := "backstep/backsteplaw40.CleangenRuns", spec := "cleangenRuns", inPlace := ["internal/bytealg.IndexByteString", "maps.clone", "slices.overlaps[int]"], unfollowed := true, recurses := true, named := ["internal/strconv.uint64pow10", "math/bits.deBruijn32tab", "math/bits.deBruijn64tab"], loops := true, apart := false, laid := [("math/bits.deBruijn32tab", laid_math_bits_deBruijn32tab), ("math/bits.deBruijn64tab", laid_math_bits_deBruijn64tab), ("internal/strconv.uint64pow10", laid_internal_strconv_uint64pow10)], narrowed := true }
def CleangenRunsUptoSaid : Prop := cleangenRunsUptoRow.holds Tryz.pinned (OpenSpec.upto cleangenRunsSpec)

/-- 'backsteplaw40.CleangenUndoes', WHERE WHAT IT READS IS OF BULK AT MOST 1048576: true; the input reads as it did. -/
def cleangenUndoesUptoRow : OpenClaim := { program := "ytpobmoegmdhbpaagreatdoor", sum := "aa1cecdabe9d203dcf45627bd5df0b49903aa19ec0ee62e6b98aadde999a9106", func := "backstep/backsteplaw40.CleangenUndoes", spec := "cleangenUndoes", inPlace := ["internal/bytealg.IndexByteString", "maps.clone", "slices.overlaps[int]"], unfollowed := true, recurses := true, named := ["internal/strconv.uint64pow10", "math/bits.deBruijn32tab", "math/bits.deBruijn64tab"], loops := true, apart := false, laid := [("math/bits.deBruijn32tab", laid_math_bits_deBruijn32tab), ("math/bits.deBruijn64tab", laid_math_bits_deBruijn64tab), ("internal/strconv.uint64pow10", laid_internal_strconv_uint64pow10)], narrowed := true }
def CleangenUndoesUptoSaid : Prop := cleangenUndoesUptoRow.holds Tryz.pinned (OpenSpec.upto cleangenUndoesSpec)

/-- 'backsteplaw41.KeepgenGarbage', WHERE WHAT IT READS IS OF BULK AT MOST 1048576: true; the input reads as it did. -/
def keepgenGarbageUptoRow : OpenClaim := { program := "ytpobmoegmdhbpaagreatdoor", sum := "aa1cecdabe9d203dcf45627bd5df0b49903aa19ec0ee62e6b98aadde999a9106", func := "backstep/backsteplaw41.KeepgenGarbage", spec := "keepgenGarbage", inPlace := ["internal/bytealg.IndexByteString", "slices.overlaps[int]"], unfollowed := true, recurses := true, named := ["internal/strconv.uint64pow10", "math/bits.deBruijn32tab", "math/bits.deBruijn64tab"], loops := true, apart := false, laid := [("math/bits.deBruijn32tab", laid_math_bits_deBruijn32tab), ("math/bits.deBruijn64tab", laid_math_bits_deBruijn64tab), ("internal/strconv.uint64pow10", laid_internal_strconv_uint64pow10)], narrowed := true }
def KeepgenGarbageUptoSaid : Prop := keepgenGarbageUptoRow.holds Tryz.pinned (OpenSpec.upto keepgenGarbageSpec)

/-- 'backsteplaw41.KeepgenKeeps', WHERE WHAT IT READS IS OF BULK AT MOST 1048576: true; the input reads as it did. -/
def keepgenKeepsUptoRow : OpenClaim := { program := "ytpobmoegmdhbpaagreatdoor", sum := "aa1cecdabe9d203dcf45627bd5df0b49903aa19ec0ee62e6b98aadde999a9106", func := "backstep/backsteplaw41.KeepgenKeeps", spec := "keepgenKeeps", inPlace := ["internal/bytealg.IndexByteString", "maps.clone", "slices.overlaps[int]"], unfollowed := true, recurses := true, named := ["internal/strconv.uint64pow10", "math/bits.deBruijn32tab", "math/bits.deBruijn64tab"], loops := true, apart := false, laid := [("math/bits.deBruijn32tab", laid_math_bits_deBruijn32tab), ("math/bits.deBruijn64tab", laid_math_bits_deBruijn64tab), ("internal/strconv.uint64pow10", laid_internal_strconv_uint64pow10)], narrowed := true }
def KeepgenKeepsUptoSaid : Prop := keepgenKeepsUptoRow.holds Tryz.pinned (OpenSpec.upto keepgenKeepsSpec)

/-- 'backsteplaw41.KeepgenClears', WHERE WHAT IT READS IS OF BULK AT MOST 1048576: true; the input reads as it did. -/
def keepgenClearsUptoRow : OpenClaim := { program := "ytpobmoegmdhbpaagreatdoor", sum := "aa1cecdabe9d203dcf45627bd5df0b49903aa19ec0ee62e6b98aadde999a9106", func := "backstep/backsteplaw41.KeepgenClears", spec := "keepgenClears", inPlace := ["internal/bytealg.IndexByteString", "maps.clone", "slices.overlaps[int]"], unfollowed := true, recurses := true, named := ["internal/strconv.uint64pow10", "math/bits.deBruijn32tab", "math/bits.deBruijn64tab"], loops := true, apart := false, laid := [("math/bits.deBruijn32tab", laid_math_bits_deBruijn32tab), ("math/bits.deBruijn64tab", laid_math_bits_deBruijn64tab), ("internal/strconv.uint64pow10", laid_internal_strconv_uint64pow10)], narrowed := true }
def KeepgenClearsUptoSaid : Prop := keepgenClearsUptoRow.holds Tryz.pinned (OpenSpec.upto keepgenClearsSpec)

end Rows
end Go.Proofs.YtpobmoegmdhbpaaGreatDoor
