/-
  NARROWER THAN 'FOR EVERY INPUT', by the rows' own cells (each row's printed sentence says how): CostmodelPredicts: loops, laid · CostmodelMonotone: loops, laid · CostmodelOrders: laid · CostmodelFuel: loops, laid · CostmodelRoot: loops, laid · CostmodelExtremes: loops, laid.
  DERIVED. THE GIVEN ROWS OF THIS SEAT. 6 by the template 'for every input the law returns true; each argument reads behind the call as it read before'; 0 by the template 'total and deterministic' (their statements: YtjhimhlebbamoaaDoorTotals.lean).
  GIVEN WITH THE SEED: the statements are not yours to turn. If you find one false, say at which input.
  Laid BY PROGRAM, IN A SANDBOX (cutbox-rows.mjs): the forced cells as the released guide's own fill.sh prints them over the translation c9484d89aa92804e… (all of the seat's roots in one cut). By AI agents, Wed Nov 11 2026. No macro, syntax, notation, axiom, sorry.
-/
import Derived.Test.YtjhimhlebbamoaaDoorChecked
import GoSem.Claim
import GoSem.ClaimJoined
import GoSem.ClaimMapViews
import Derived.JoinedTies
import Derived.KernelRfl
namespace Go.Proofs.YtjhimhlebbamoaaDoor
/- THE CELL 'sum', in the pinned program and in every row, IS THE sha256 OF THE DUMP (.gsa) THAT YtjhimhlebbamoaaDoorProg.lean LOADS. Nothing in Lean hashes anything: it is a label: what it is worth is what the hold of that sum in a sandbox is worth. -/
noncomputable def Tryd.pinned : Pinned := { name := "ytjhimhlebbamoaadoor", sum := "c9484d89aa92804ecc99ba985f61a6bae0e841dc1daebb4a1ffbce80bf4aefe5", checked := Tryd.checked }
namespace Rows
def none {H : Type} : Left H := { results := [], args := [] }

/- WHAT THE LISTED PACKAGE-LEVEL VARIABLES READ AS WHEN THE CALL BEGINS. Each datum BY PROGRAM (the guide's laid-datum.mjs) off the statement by which the dump's own 'gosem.cut.vars' lays the variable. In a bare row this is a premise. The card (YtjhimhlebbamoaaDoorCards.lean) ties it to the program's text. -/
def laid_math_bits_deBruijn32tab {H : Type} : DataW H := .agg [.lit (.int .u8 0), .lit (.int .u8 1), .lit (.int .u8 28), .lit (.int .u8 2), .lit (.int .u8 29), .lit (.int .u8 14), .lit (.int .u8 24), .lit (.int .u8 3), .lit (.int .u8 30), .lit (.int .u8 22), .lit (.int .u8 20), .lit (.int .u8 15), .lit (.int .u8 25), .lit (.int .u8 17), .lit (.int .u8 4), .lit (.int .u8 8), .lit (.int .u8 31), .lit (.int .u8 27), .lit (.int .u8 13), .lit (.int .u8 23), .lit (.int .u8 21), .lit (.int .u8 19), .lit (.int .u8 16), .lit (.int .u8 7), .lit (.int .u8 26), .lit (.int .u8 12), .lit (.int .u8 18), .lit (.int .u8 6), .lit (.int .u8 11), .lit (.int .u8 5), .lit (.int .u8 10), .lit (.int .u8 9)]
def laid_math_bits_deBruijn64tab {H : Type} : DataW H := .agg [.lit (.int .u8 0), .lit (.int .u8 1), .lit (.int .u8 56), .lit (.int .u8 2), .lit (.int .u8 57), .lit (.int .u8 49), .lit (.int .u8 28), .lit (.int .u8 3), .lit (.int .u8 61), .lit (.int .u8 58), .lit (.int .u8 42), .lit (.int .u8 50), .lit (.int .u8 38), .lit (.int .u8 29), .lit (.int .u8 17), .lit (.int .u8 4), .lit (.int .u8 62), .lit (.int .u8 47), .lit (.int .u8 59), .lit (.int .u8 36), .lit (.int .u8 45), .lit (.int .u8 43), .lit (.int .u8 51), .lit (.int .u8 22), .lit (.int .u8 53), .lit (.int .u8 39), .lit (.int .u8 33), .lit (.int .u8 30), .lit (.int .u8 24), .lit (.int .u8 18), .lit (.int .u8 12), .lit (.int .u8 5), .lit (.int .u8 63), .lit (.int .u8 55), .lit (.int .u8 48), .lit (.int .u8 27), .lit (.int .u8 60), .lit (.int .u8 41), .lit (.int .u8 37), .lit (.int .u8 16), .lit (.int .u8 46), .lit (.int .u8 35), .lit (.int .u8 44), .lit (.int .u8 21), .lit (.int .u8 52), .lit (.int .u8 32), .lit (.int .u8 23), .lit (.int .u8 11), .lit (.int .u8 54), .lit (.int .u8 26), .lit (.int .u8 40), .lit (.int .u8 15), .lit (.int .u8 34), .lit (.int .u8 20), .lit (.int .u8 31), .lit (.int .u8 10), .lit (.int .u8 25), .lit (.int .u8 14), .lit (.int .u8 19), .lit (.int .u8 9), .lit (.int .u8 13), .lit (.int .u8 8), .lit (.int .u8 7), .lit (.int .u8 6)]
def laid_internal_strconv_uint64pow10 {H : Type} : DataW H := .agg [.lit (.int .u64 1), .lit (.int .u64 10), .lit (.int .u64 100), .lit (.int .u64 1000), .lit (.int .u64 10000), .lit (.int .u64 100000), .lit (.int .u64 1000000), .lit (.int .u64 10000000), .lit (.int .u64 100000000), .lit (.int .u64 1000000000), .lit (.int .u64 10000000000), .lit (.int .u64 100000000000), .lit (.int .u64 1000000000000), .lit (.int .u64 10000000000000), .lit (.int .u64 100000000000000), .lit (.int .u64 1000000000000000), .lit (.int .u64 10000000000000000), .lit (.int .u64 100000000000000000), .lit (.int .u64 1000000000000000000), .lit (.int .u64 10000000000000000000)]

/-- 'backsteplaw43.CostmodelPredicts': WHATEVER THE INPUT: true; the input reads as it did. -/
def costmodelPredictsSpec : ChangeSpec := { name := "costmodelPredicts", fn := fun _ => fun
  | [d1, d2, d3, d4, d5] => { results := [.lit (.bool true)], args := [d1, d2, d3, d4, d5] }
  | _ => none }
def costmodelPredictsRow : OpenClaim := { program := "ytjhimhlebbamoaadoor", sum := "c9484d89aa92804ecc99ba985f61a6bae0e841dc1daebb4a1ffbce80bf4aefe5", func := "backstep/backsteplaw43.CostmodelPredicts", spec := "costmodelPredicts", inPlace := ["maps.clone"], unfollowed := true, recurses := true, named := ["internal/strconv.uint64pow10", "math/bits.deBruijn32tab", "math/bits.deBruijn64tab"], loops := true, apart := false, laid := [("math/bits.deBruijn32tab", laid_math_bits_deBruijn32tab), ("math/bits.deBruijn64tab", laid_math_bits_deBruijn64tab), ("internal/strconv.uint64pow10", laid_internal_strconv_uint64pow10)] }
def CostmodelPredictsSaid : Prop := costmodelPredictsRow.holds Tryd.pinned (OpenSpec.ofChange costmodelPredictsSpec)

/-- ITS FALSE NEIGHBOUR: 'it returns false'. Refute it at one input. -/
def costmodelPredictsWrong : ChangeSpec := { name := "costmodelPredicts", fn := fun _ => fun
  | [d1, d2, d3, d4, d5] => { results := [.lit (.bool false)], args := [d1, d2, d3, d4, d5] }
  | _ => none }
def CostmodelPredictsWrongFalsely : Prop := costmodelPredictsRow.holds Tryd.pinned (OpenSpec.ofChange costmodelPredictsWrong)

/-- 'backsteplaw43.CostmodelMonotone': WHATEVER THE INPUT: true; the input reads as it did. -/
def costmodelMonotoneSpec : ChangeSpec := { name := "costmodelMonotone", fn := fun _ => fun
  | [d1, d2, d3, d4, d5] => { results := [.lit (.bool true)], args := [d1, d2, d3, d4, d5] }
  | _ => none }
def costmodelMonotoneRow : OpenClaim := { program := "ytjhimhlebbamoaadoor", sum := "c9484d89aa92804ecc99ba985f61a6bae0e841dc1daebb4a1ffbce80bf4aefe5", func := "backstep/backsteplaw43.CostmodelMonotone", spec := "costmodelMonotone", inPlace := ["maps.clone"], unfollowed := true, recurses := true, named := ["internal/strconv.uint64pow10", "math/bits.deBruijn32tab", "math/bits.deBruijn64tab"], loops := true, apart := false, laid := [("math/bits.deBruijn32tab", laid_math_bits_deBruijn32tab), ("math/bits.deBruijn64tab", laid_math_bits_deBruijn64tab), ("internal/strconv.uint64pow10", laid_internal_strconv_uint64pow10)] }
def CostmodelMonotoneSaid : Prop := costmodelMonotoneRow.holds Tryd.pinned (OpenSpec.ofChange costmodelMonotoneSpec)

/-- ITS FALSE NEIGHBOUR: 'it returns false'. Refute it at one input. -/
def costmodelMonotoneWrong : ChangeSpec := { name := "costmodelMonotone", fn := fun _ => fun
  | [d1, d2, d3, d4, d5] => { results := [.lit (.bool false)], args := [d1, d2, d3, d4, d5] }
  | _ => none }
def CostmodelMonotoneWrongFalsely : Prop := costmodelMonotoneRow.holds Tryd.pinned (OpenSpec.ofChange costmodelMonotoneWrong)

/-- 'backsteplaw43.CostmodelOrders': WHATEVER THE INPUT: true; the input reads as it did. -/
def costmodelOrdersSpec : ChangeSpec := { name := "costmodelOrders", fn := fun _ => fun
  | [d1, d2, d3] => { results := [.lit (.bool true)], args := [d1, d2, d3] }
  | _ => none }
def costmodelOrdersRow : OpenClaim := { program := "ytjhimhlebbamoaadoor", sum := "c9484d89aa92804ecc99ba985f61a6bae0e841dc1daebb4a1ffbce80bf4aefe5", func := "backstep/backsteplaw43.CostmodelOrders", spec := "costmodelOrders", inPlace := ["maps.clone"], unfollowed := true, recurses := true, named := ["internal/strconv.uint64pow10", "math/bits.deBruijn32tab", "math/bits.deBruijn64tab"], apart := false, laid := [("math/bits.deBruijn32tab", laid_math_bits_deBruijn32tab), ("math/bits.deBruijn64tab", laid_math_bits_deBruijn64tab), ("internal/strconv.uint64pow10", laid_internal_strconv_uint64pow10)] }
def CostmodelOrdersSaid : Prop := costmodelOrdersRow.holds Tryd.pinned (OpenSpec.ofChange costmodelOrdersSpec)

/-- ITS FALSE NEIGHBOUR: 'it returns false'. Refute it at one input. -/
def costmodelOrdersWrong : ChangeSpec := { name := "costmodelOrders", fn := fun _ => fun
  | [d1, d2, d3] => { results := [.lit (.bool false)], args := [d1, d2, d3] }
  | _ => none }
def CostmodelOrdersWrongFalsely : Prop := costmodelOrdersRow.holds Tryd.pinned (OpenSpec.ofChange costmodelOrdersWrong)

/-- 'backsteplaw43.CostmodelFuel': WHATEVER THE INPUT: true; the input reads as it did. -/
def costmodelFuelSpec : ChangeSpec := { name := "costmodelFuel", fn := fun _ => fun
  | [d1, d2, d3, d4, d5] => { results := [.lit (.bool true)], args := [d1, d2, d3, d4, d5] }
  | _ => none }
def costmodelFuelRow : OpenClaim := { program := "ytjhimhlebbamoaadoor", sum := "c9484d89aa92804ecc99ba985f61a6bae0e841dc1daebb4a1ffbce80bf4aefe5", func := "backstep/backsteplaw43.CostmodelFuel", spec := "costmodelFuel", inPlace := ["maps.clone"], unfollowed := true, recurses := true, named := ["internal/strconv.uint64pow10", "math/bits.deBruijn32tab", "math/bits.deBruijn64tab"], loops := true, apart := false, laid := [("math/bits.deBruijn32tab", laid_math_bits_deBruijn32tab), ("math/bits.deBruijn64tab", laid_math_bits_deBruijn64tab), ("internal/strconv.uint64pow10", laid_internal_strconv_uint64pow10)] }
def CostmodelFuelSaid : Prop := costmodelFuelRow.holds Tryd.pinned (OpenSpec.ofChange costmodelFuelSpec)

/-- ITS FALSE NEIGHBOUR: 'it returns false'. Refute it at one input. -/
def costmodelFuelWrong : ChangeSpec := { name := "costmodelFuel", fn := fun _ => fun
  | [d1, d2, d3, d4, d5] => { results := [.lit (.bool false)], args := [d1, d2, d3, d4, d5] }
  | _ => none }
def CostmodelFuelWrongFalsely : Prop := costmodelFuelRow.holds Tryd.pinned (OpenSpec.ofChange costmodelFuelWrong)

/-- 'backsteplaw43.CostmodelRoot': WHATEVER THE INPUT: true; the input reads as it did. -/
def costmodelRootSpec : ChangeSpec := { name := "costmodelRoot", fn := fun _ => fun
  | [d1, d2, d3, d4] => { results := [.lit (.bool true)], args := [d1, d2, d3, d4] }
  | _ => none }
def costmodelRootRow : OpenClaim := { program := "ytjhimhlebbamoaadoor", sum := "c9484d89aa92804ecc99ba985f61a6bae0e841dc1daebb4a1ffbce80bf4aefe5", func := "backstep/backsteplaw43.CostmodelRoot", spec := "costmodelRoot", inPlace := ["maps.clone"], unfollowed := true, recurses := true, named := ["internal/strconv.uint64pow10", "math/bits.deBruijn32tab", "math/bits.deBruijn64tab"], loops := true, apart := false, laid := [("math/bits.deBruijn32tab", laid_math_bits_deBruijn32tab), ("math/bits.deBruijn64tab", laid_math_bits_deBruijn64tab), ("internal/strconv.uint64pow10", laid_internal_strconv_uint64pow10)] }
def CostmodelRootSaid : Prop := costmodelRootRow.holds Tryd.pinned (OpenSpec.ofChange costmodelRootSpec)

/-- ITS FALSE NEIGHBOUR: 'it returns false'. Refute it at one input. -/
def costmodelRootWrong : ChangeSpec := { name := "costmodelRoot", fn := fun _ => fun
  | [d1, d2, d3, d4] => { results := [.lit (.bool false)], args := [d1, d2, d3, d4] }
  | _ => none }
def CostmodelRootWrongFalsely : Prop := costmodelRootRow.holds Tryd.pinned (OpenSpec.ofChange costmodelRootWrong)

/-- 'backsteplaw43.CostmodelExtremes': WHATEVER THE INPUT: true; the input reads as it did. -/
def costmodelExtremesSpec : ChangeSpec := { name := "costmodelExtremes", fn := fun _ => fun
  | [d1, d2, d3] => { results := [.lit (.bool true)], args := [d1, d2, d3] }
  | _ => none }
def costmodelExtremesRow : OpenClaim := { program := "ytjhimhlebbamoaadoor", sum := "c9484d89aa92804ecc99ba985f61a6bae0e841dc1daebb4a1ffbce80bf4aefe5", func := "backstep/backsteplaw43.CostmodelExtremes", spec := "costmodelExtremes", inPlace := ["maps.clone"], unfollowed := true, recurses := true, named := ["internal/strconv.uint64pow10", "math/bits.deBruijn32tab", "math/bits.deBruijn64tab"], loops := true, apart := false, laid := [("math/bits.deBruijn32tab", laid_math_bits_deBruijn32tab), ("math/bits.deBruijn64tab", laid_math_bits_deBruijn64tab), ("internal/strconv.uint64pow10", laid_internal_strconv_uint64pow10)] }
def CostmodelExtremesSaid : Prop := costmodelExtremesRow.holds Tryd.pinned (OpenSpec.ofChange costmodelExtremesSpec)

/-- ITS FALSE NEIGHBOUR: 'it returns false'. Refute it at one input. -/
def costmodelExtremesWrong : ChangeSpec := { name := "costmodelExtremes", fn := fun _ => fun
  | [d1, d2, d3] => { results := [.lit (.bool false)], args := [d1, d2, d3] }
  | _ => none }
def CostmodelExtremesWrongFalsely : Prop := costmodelExtremesRow.holds Tryd.pinned (OpenSpec.ofChange costmodelExtremesWrong)

/- THE SECOND FORM. 'bulk': how many values and letters a reading holds, each counted each time it is reached (what is shared counts as often as it is met; a slice's spare places count too). A statement '..UptoSaid' is the law's where the arguments, and the package variables that the reading takes, are together of bulk at most 1048576: NARROWER than '..Said'. Prove '..Said' where nothing that the law and all that it calls make is longer than what came in: it says more and counts as full. Else prove '..UptoSaid'. A law counts once. -/
mutual
def uptoBulk {H : Type} : DataW H → Nat
  | .lit (.string bytes) => bytes.length + 1
  | .lit _ => 1
  | .nil => 1
  | .ptr d => uptoBulk d + 1
  | .slice elems spare => uptoBulkAll elems + uptoBulkAll spare + 1
  | .agg parts => uptoBulkAll parts + 1
  | .iface _ d => uptoBulk d + 1
  | .map entries => uptoBulkEntries entries + 1
  | .held _ => 1
def uptoBulkAll {H : Type} : List (DataW H) → Nat
  | [] => 0
  | d :: r => uptoBulk d + uptoBulkAll r
def uptoBulkEntries {H : Type} : List (Lit × DataW H) → Nat
  | [] => 0
  | x :: r => uptoBulkEntry x + uptoBulkEntries r
def uptoBulkEntry {H : Type} : Lit × DataW H → Nat
  | (.string bytes, d) => bytes.length + uptoBulk d + 1
  | (_, d) => uptoBulk d + 1
 end
def uptoSmall : (H : Type) → List (DataW H) → Bool := fun _ ds => decide (uptoBulkAll ds ≤ 1048576)
def OpenSpec.upto (s : _root_.Go.ChangeSpec) : _root_.Go.OpenSpec := { _root_.Go.OpenSpec.ofChange s with cond := some uptoSmall }

/-- 'backsteplaw43.CostmodelPredicts', WHERE WHAT IT READS IS OF BULK AT MOST 1048576: true; the input reads as it did. -/
def costmodelPredictsUptoRow : OpenClaim := { program := "ytjhimhlebbamoaadoor", sum := "c9484d89aa92804ecc99ba985f61a6bae0e841dc1daebb4a1ffbce80bf4aefe5", func := "backstep/backsteplaw43.CostmodelPredicts", spec := "costmodelPredicts", inPlace := ["maps.clone"], unfollowed := true, recurses := true, named := ["internal/strconv.uint64pow10", "math/bits.deBruijn32tab", "math/bits.deBruijn64tab"], loops := true, apart := false, laid := [("math/bits.deBruijn32tab", laid_math_bits_deBruijn32tab), ("math/bits.deBruijn64tab", laid_math_bits_deBruijn64tab), ("internal/strconv.uint64pow10", laid_internal_strconv_uint64pow10)], narrowed := true }
def CostmodelPredictsUptoSaid : Prop := costmodelPredictsUptoRow.holds Tryd.pinned (OpenSpec.upto costmodelPredictsSpec)

/-- 'backsteplaw43.CostmodelMonotone', WHERE WHAT IT READS IS OF BULK AT MOST 1048576: true; the input reads as it did. -/
def costmodelMonotoneUptoRow : OpenClaim := { program := "ytjhimhlebbamoaadoor", sum := "c9484d89aa92804ecc99ba985f61a6bae0e841dc1daebb4a1ffbce80bf4aefe5", func := "backstep/backsteplaw43.CostmodelMonotone", spec := "costmodelMonotone", inPlace := ["maps.clone"], unfollowed := true, recurses := true, named := ["internal/strconv.uint64pow10", "math/bits.deBruijn32tab", "math/bits.deBruijn64tab"], loops := true, apart := false, laid := [("math/bits.deBruijn32tab", laid_math_bits_deBruijn32tab), ("math/bits.deBruijn64tab", laid_math_bits_deBruijn64tab), ("internal/strconv.uint64pow10", laid_internal_strconv_uint64pow10)], narrowed := true }
def CostmodelMonotoneUptoSaid : Prop := costmodelMonotoneUptoRow.holds Tryd.pinned (OpenSpec.upto costmodelMonotoneSpec)

/-- 'backsteplaw43.CostmodelOrders', WHERE WHAT IT READS IS OF BULK AT MOST 1048576: true; the input reads as it did. -/
def costmodelOrdersUptoRow : OpenClaim := { program := "ytjhimhlebbamoaadoor", sum := "c9484d89aa92804ecc99ba985f61a6bae0e841dc1daebb4a1ffbce80bf4aefe5", func := "backstep/backsteplaw43.CostmodelOrders", spec := "costmodelOrders", inPlace := ["maps.clone"], unfollowed := true, recurses := true, named := ["internal/strconv.uint64pow10", "math/bits.deBruijn32tab", "math/bits.deBruijn64tab"], apart := false, laid := [("math/bits.deBruijn32tab", laid_math_bits_deBruijn32tab), ("math/bits.deBruijn64tab", laid_math_bits_deBruijn64tab), ("internal/strconv.uint64pow10", laid_internal_strconv_uint64pow10)], narrowed := true }
def CostmodelOrdersUptoSaid : Prop := costmodelOrdersUptoRow.holds Tryd.pinned (OpenSpec.upto costmodelOrdersSpec)

/-- 'backsteplaw43.CostmodelFuel', WHERE WHAT IT READS IS OF BULK AT MOST 1048576: true; the input reads as it did. -/
def costmodelFuelUptoRow : OpenClaim := { program := "ytjhimhlebbamoaadoor", sum := "c9484d89aa92804ecc99ba985f61a6bae0e841dc1daebb4a1ffbce80bf4aefe5", func := "backstep/backsteplaw43.CostmodelFuel", spec := "costmodelFuel", inPlace := ["maps.clone"], unfollowed := true, recurses := true, named := ["internal/strconv.uint64pow10", "math/bits.deBruijn32tab", "math/bits.deBruijn64tab"], loops := true, apart := false, laid := [("math/bits.deBruijn32tab", laid_math_bits_deBruijn32tab), ("math/bits.deBruijn64tab", laid_math_bits_deBruijn64tab), ("internal/strconv.uint64pow10", laid_internal_strconv_uint64pow10)], narrowed := true }
def CostmodelFuelUptoSaid : Prop := costmodelFuelUptoRow.holds Tryd.pinned (OpenSpec.upto costmodelFuelSpec)

/-- 'backsteplaw43.CostmodelRoot', WHERE WHAT IT READS IS OF BULK AT MOST 1048576: true; the input reads as it did. -/
def costmodelRootUptoRow : OpenClaim := { program := "ytjhimhlebbamoaadoor", sum := "c9484d89aa92804ecc99ba985f61a6bae0e841dc1daebb4a1ffbce80bf4aefe5", func := "backstep/backsteplaw43.CostmodelRoot", spec := "costmodelRoot", inPlace := ["maps.clone"], unfollowed := true, recurses := true, named := ["internal/strconv.uint64pow10", "math/bits.deBruijn32tab", "math/bits.deBruijn64tab"], loops := true, apart := false, laid := [("math/bits.deBruijn32tab", laid_math_bits_deBruijn32tab), ("math/bits.deBruijn64tab", laid_math_bits_deBruijn64tab), ("internal/strconv.uint64pow10", laid_internal_strconv_uint64pow10)], narrowed := true }
def CostmodelRootUptoSaid : Prop := costmodelRootUptoRow.holds Tryd.pinned (OpenSpec.upto costmodelRootSpec)

/-- 'backsteplaw43.CostmodelExtremes', WHERE WHAT IT READS IS OF BULK AT MOST 1048576: true; the input reads as it did. -/
def costmodelExtremesUptoRow : OpenClaim := { program := "ytjhimhlebbamoaadoor", sum := "c9484d89aa92804ecc99ba985f61a6bae0e841dc1daebb4a1ffbce80bf4aefe5", func := "backstep/backsteplaw43.CostmodelExtremes", spec := "costmodelExtremes", inPlace := ["maps.clone"], unfollowed := true, recurses := true, named := ["internal/strconv.uint64pow10", "math/bits.deBruijn32tab", "math/bits.deBruijn64tab"], loops := true, apart := false, laid := [("math/bits.deBruijn32tab", laid_math_bits_deBruijn32tab), ("math/bits.deBruijn64tab", laid_math_bits_deBruijn64tab), ("internal/strconv.uint64pow10", laid_internal_strconv_uint64pow10)], narrowed := true }
def CostmodelExtremesUptoSaid : Prop := costmodelExtremesUptoRow.holds Tryd.pinned (OpenSpec.upto costmodelExtremesSpec)

end Rows
end Go.Proofs.YtjhimhlebbamoaaDoor
