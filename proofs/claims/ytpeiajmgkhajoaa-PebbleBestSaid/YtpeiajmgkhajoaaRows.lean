/-
  No cell of these rows narrows 'for every input' (looked for: loops, veiled, ifaces, maps, wideKeys, modest, calm, conditions, laid).
  DERIVED. THE GIVEN ROWS OF THIS SEAT. 8 by the template 'for every input the law returns true; each argument reads behind the call as it read before'; 0 by the template 'total and deterministic' (their statements: YtpeiajmgkhajoaaTotals.lean).
  GIVEN WITH THE SEED: the statements are not yours to turn. If you find one false, say at which input.
  Laid BY PROGRAM, IN A SANDBOX (cutbox-rows.mjs): the forced cells as the released guide's own fill.sh prints them over the translation 51f4125b76a3af51… (all of the seat's roots in one cut). By AI agents, Wed Nov 11 2026. No macro, syntax, notation, axiom, sorry.
-/
import Derived.Test.YtpeiajmgkhajoaaChecked
import GoSem.Claim
import GoSem.ClaimJoined
import GoSem.ClaimMapViews
import Derived.JoinedTies
import Derived.KernelRfl
namespace Go.Proofs.Ytpeiajmgkhajoaa
/- THE CELL 'sum', in the pinned program and in every row, IS THE sha256 OF THE DUMP (.gsa) THAT YtpeiajmgkhajoaaProg.lean LOADS. Nothing in Lean hashes anything: it is a label: what it is worth is what the hold of that sum in a sandbox is worth. -/
noncomputable def Try.pinned : Pinned := { name := "ytpeiajmgkhajoaa", sum := "51f4125b76a3af519df9ad14af1d2440b1aaa6e9adaac1ebc0df28dbb2ae9730", checked := Try.checked }
namespace Rows
def none {H : Type} : Left H := { results := [], args := [] }

/-- 'backsteplaw44.PebbleBennett': WHATEVER THE INPUT: true; the input reads as it did. -/
def pebbleBennettSpec : ChangeSpec := { name := "pebbleBennett", fn := fun _ => fun
  | [d1, d2] => { results := [.lit (.bool true)], args := [d1, d2] }
  | _ => none }
def pebbleBennettRow : OpenClaim := { program := "ytpeiajmgkhajoaa", sum := "51f4125b76a3af519df9ad14af1d2440b1aaa6e9adaac1ebc0df28dbb2ae9730", func := "backstep/backsteplaw44.PebbleBennett", spec := "pebbleBennett", unfollowed := true, recurses := true, apart := false }
def PebbleBennettSaid : Prop := pebbleBennettRow.holds Try.pinned (OpenSpec.ofChange pebbleBennettSpec)

/-- ITS FALSE NEIGHBOUR: 'it returns false'. Refute it at one input. -/
def pebbleBennettWrong : ChangeSpec := { name := "pebbleBennett", fn := fun _ => fun
  | [d1, d2] => { results := [.lit (.bool false)], args := [d1, d2] }
  | _ => none }
def PebbleBennettWrongFalsely : Prop := pebbleBennettRow.holds Try.pinned (OpenSpec.ofChange pebbleBennettWrong)

/-- 'backsteplaw44.PebblePowers': WHATEVER THE INPUT: true; the input reads as it did. -/
def pebblePowersSpec : ChangeSpec := { name := "pebblePowers", fn := fun _ => fun
  | [d1, d2] => { results := [.lit (.bool true)], args := [d1, d2] }
  | _ => none }
def pebblePowersRow : OpenClaim := { program := "ytpeiajmgkhajoaa", sum := "51f4125b76a3af519df9ad14af1d2440b1aaa6e9adaac1ebc0df28dbb2ae9730", func := "backstep/backsteplaw44.PebblePowers", spec := "pebblePowers", unfollowed := true, recurses := true, apart := false }
def PebblePowersSaid : Prop := pebblePowersRow.holds Try.pinned (OpenSpec.ofChange pebblePowersSpec)

/-- ITS FALSE NEIGHBOUR: 'it returns false'. Refute it at one input. -/
def pebblePowersWrong : ChangeSpec := { name := "pebblePowers", fn := fun _ => fun
  | [d1, d2] => { results := [.lit (.bool false)], args := [d1, d2] }
  | _ => none }
def PebblePowersWrongFalsely : Prop := pebblePowersRow.holds Try.pinned (OpenSpec.ofChange pebblePowersWrong)

/-- 'backsteplaw44.PebbleBest': WHATEVER THE INPUT: true; the input reads as it did. -/
def pebbleBestSpec : ChangeSpec := { name := "pebbleBest", fn := fun _ => fun
  | [d1, d2] => { results := [.lit (.bool true)], args := [d1, d2] }
  | _ => none }
def pebbleBestRow : OpenClaim := { program := "ytpeiajmgkhajoaa", sum := "51f4125b76a3af519df9ad14af1d2440b1aaa6e9adaac1ebc0df28dbb2ae9730", func := "backstep/backsteplaw44.PebbleBest", spec := "pebbleBest", unfollowed := true, recurses := true, apart := false }
def PebbleBestSaid : Prop := pebbleBestRow.holds Try.pinned (OpenSpec.ofChange pebbleBestSpec)

/-- ITS FALSE NEIGHBOUR: 'it returns false'. Refute it at one input. -/
def pebbleBestWrong : ChangeSpec := { name := "pebbleBest", fn := fun _ => fun
  | [d1, d2] => { results := [.lit (.bool false)], args := [d1, d2] }
  | _ => none }
def PebbleBestWrongFalsely : Prop := pebbleBestRow.holds Try.pinned (OpenSpec.ofChange pebbleBestWrong)

/-- 'backsteplaw44.PebbleLegal': WHATEVER THE INPUT: true; the input reads as it did. -/
def pebbleLegalSpec : ChangeSpec := { name := "pebbleLegal", fn := fun _ => fun
  | [d1, d2] => { results := [.lit (.bool true)], args := [d1, d2] }
  | _ => none }
def pebbleLegalRow : OpenClaim := { program := "ytpeiajmgkhajoaa", sum := "51f4125b76a3af519df9ad14af1d2440b1aaa6e9adaac1ebc0df28dbb2ae9730", func := "backstep/backsteplaw44.PebbleLegal", spec := "pebbleLegal", unfollowed := true, recurses := true, apart := false }
def PebbleLegalSaid : Prop := pebbleLegalRow.holds Try.pinned (OpenSpec.ofChange pebbleLegalSpec)

/-- ITS FALSE NEIGHBOUR: 'it returns false'. Refute it at one input. -/
def pebbleLegalWrong : ChangeSpec := { name := "pebbleLegal", fn := fun _ => fun
  | [d1, d2] => { results := [.lit (.bool false)], args := [d1, d2] }
  | _ => none }
def PebbleLegalWrongFalsely : Prop := pebbleLegalRow.holds Try.pinned (OpenSpec.ofChange pebbleLegalWrong)

/-- 'backsteplaw44.PebbleComplete': WHATEVER THE INPUT: true; the input reads as it did. -/
def pebbleCompleteSpec : ChangeSpec := { name := "pebbleComplete", fn := fun _ => fun
  | [d1, d2] => { results := [.lit (.bool true)], args := [d1, d2] }
  | _ => none }
def pebbleCompleteRow : OpenClaim := { program := "ytpeiajmgkhajoaa", sum := "51f4125b76a3af519df9ad14af1d2440b1aaa6e9adaac1ebc0df28dbb2ae9730", func := "backstep/backsteplaw44.PebbleComplete", spec := "pebbleComplete", unfollowed := true, recurses := true, apart := false }
def PebbleCompleteSaid : Prop := pebbleCompleteRow.holds Try.pinned (OpenSpec.ofChange pebbleCompleteSpec)

/-- ITS FALSE NEIGHBOUR: 'it returns false'. Refute it at one input. -/
def pebbleCompleteWrong : ChangeSpec := { name := "pebbleComplete", fn := fun _ => fun
  | [d1, d2] => { results := [.lit (.bool false)], args := [d1, d2] }
  | _ => none }
def PebbleCompleteWrongFalsely : Prop := pebbleCompleteRow.holds Try.pinned (OpenSpec.ofChange pebbleCompleteWrong)

/-- 'backsteplaw44.PebbleInverse': WHATEVER THE INPUT: true; the input reads as it did. -/
def pebbleInverseSpec : ChangeSpec := { name := "pebbleInverse", fn := fun _ => fun
  | [d1, d2] => { results := [.lit (.bool true)], args := [d1, d2] }
  | _ => none }
def pebbleInverseRow : OpenClaim := { program := "ytpeiajmgkhajoaa", sum := "51f4125b76a3af519df9ad14af1d2440b1aaa6e9adaac1ebc0df28dbb2ae9730", func := "backstep/backsteplaw44.PebbleInverse", spec := "pebbleInverse", unfollowed := true, recurses := true, apart := false }
def PebbleInverseSaid : Prop := pebbleInverseRow.holds Try.pinned (OpenSpec.ofChange pebbleInverseSpec)

/-- ITS FALSE NEIGHBOUR: 'it returns false'. Refute it at one input. -/
def pebbleInverseWrong : ChangeSpec := { name := "pebbleInverse", fn := fun _ => fun
  | [d1, d2] => { results := [.lit (.bool false)], args := [d1, d2] }
  | _ => none }
def PebbleInverseWrongFalsely : Prop := pebbleInverseRow.holds Try.pinned (OpenSpec.ofChange pebbleInverseWrong)

/-- 'backsteplaw44.PebbleLeast': WHATEVER THE INPUT: true; the input reads as it did. -/
def pebbleLeastSpec : ChangeSpec := { name := "pebbleLeast", fn := fun _ => fun
  | [d1, d2, d3] => { results := [.lit (.bool true)], args := [d1, d2, d3] }
  | _ => none }
def pebbleLeastRow : OpenClaim := { program := "ytpeiajmgkhajoaa", sum := "51f4125b76a3af519df9ad14af1d2440b1aaa6e9adaac1ebc0df28dbb2ae9730", func := "backstep/backsteplaw44.PebbleLeast", spec := "pebbleLeast", unfollowed := true, recurses := true, apart := false }
def PebbleLeastSaid : Prop := pebbleLeastRow.holds Try.pinned (OpenSpec.ofChange pebbleLeastSpec)

/-- ITS FALSE NEIGHBOUR: 'it returns false'. Refute it at one input. -/
def pebbleLeastWrong : ChangeSpec := { name := "pebbleLeast", fn := fun _ => fun
  | [d1, d2, d3] => { results := [.lit (.bool false)], args := [d1, d2, d3] }
  | _ => none }
def PebbleLeastWrongFalsely : Prop := pebbleLeastRow.holds Try.pinned (OpenSpec.ofChange pebbleLeastWrong)

/-- 'backsteplaw44.PebbleReach': WHATEVER THE INPUT: true; the input reads as it did. -/
def pebbleReachSpec : ChangeSpec := { name := "pebbleReach", fn := fun _ => fun
  | [d1, d2] => { results := [.lit (.bool true)], args := [d1, d2] }
  | _ => none }
def pebbleReachRow : OpenClaim := { program := "ytpeiajmgkhajoaa", sum := "51f4125b76a3af519df9ad14af1d2440b1aaa6e9adaac1ebc0df28dbb2ae9730", func := "backstep/backsteplaw44.PebbleReach", spec := "pebbleReach", unfollowed := true, recurses := true, apart := false }
def PebbleReachSaid : Prop := pebbleReachRow.holds Try.pinned (OpenSpec.ofChange pebbleReachSpec)

/-- ITS FALSE NEIGHBOUR: 'it returns false'. Refute it at one input. -/
def pebbleReachWrong : ChangeSpec := { name := "pebbleReach", fn := fun _ => fun
  | [d1, d2] => { results := [.lit (.bool false)], args := [d1, d2] }
  | _ => none }
def PebbleReachWrongFalsely : Prop := pebbleReachRow.holds Try.pinned (OpenSpec.ofChange pebbleReachWrong)

/- THE SECOND FORM. 'bulk': how many values and letters a reading holds, each counted each time it is reached (what is shared counts as often as it is met; a slice's spare places count too). A statement '..UptoSaid' is the law's where the arguments, and the package variables that the reading takes, are together of bulk at most 1048576: NARROWER than '..Said'. Prove '..Said' where nothing that the law and all that it calls make is longer than what came in: it says more and counts as full. Else prove '..UptoSaid'. A law counts once. -/
mutual
def uptoBulk {H : Type} : DataW H → Nat
  | .lit (.string bytes) => bytes.length + 1
  | .lit _ => 1
  | .nil => 1
  | .ptr d => uptoBulk d + 1
  | .slice elems spare => uptoBulkAll elems + uptoBulkAll spare + 1
  | .agg parts => uptoBulkAll parts + 1
  | .iface _ d => uptoBulk d + 1
  | .map entries => uptoBulkEntries entries + 1
  | .held _ => 1
def uptoBulkAll {H : Type} : List (DataW H) → Nat
  | [] => 0
  | d :: r => uptoBulk d + uptoBulkAll r
def uptoBulkEntries {H : Type} : List (Lit × DataW H) → Nat
  | [] => 0
  | x :: r => uptoBulkEntry x + uptoBulkEntries r
def uptoBulkEntry {H : Type} : Lit × DataW H → Nat
  | (.string bytes, d) => bytes.length + uptoBulk d + 1
  | (_, d) => uptoBulk d + 1
 end
def uptoSmall : (H : Type) → List (DataW H) → Bool := fun _ ds => decide (uptoBulkAll ds ≤ 1048576)
def OpenSpec.upto (s : _root_.Go.ChangeSpec) : _root_.Go.OpenSpec := { _root_.Go.OpenSpec.ofChange s with cond := some uptoSmall }

/-- 'backsteplaw44.PebbleBennett', WHERE WHAT IT READS IS OF BULK AT MOST 1048576: true; the input reads as it did. -/
def pebbleBennettUptoRow : OpenClaim := { program := "ytpeiajmgkhajoaa", sum := "51f4125b76a3af519df9ad14af1d2440b1aaa6e9adaac1ebc0df28dbb2ae9730", func := "backstep/backsteplaw44.PebbleBennett", spec := "pebbleBennett", unfollowed := true, recurses := true, apart := false, narrowed := true }
def PebbleBennettUptoSaid : Prop := pebbleBennettUptoRow.holds Try.pinned (OpenSpec.upto pebbleBennettSpec)

/-- 'backsteplaw44.PebblePowers', WHERE WHAT IT READS IS OF BULK AT MOST 1048576: true; the input reads as it did. -/
def pebblePowersUptoRow : OpenClaim := { program := "ytpeiajmgkhajoaa", sum := "51f4125b76a3af519df9ad14af1d2440b1aaa6e9adaac1ebc0df28dbb2ae9730", func := "backstep/backsteplaw44.PebblePowers", spec := "pebblePowers", unfollowed := true, recurses := true, apart := false, narrowed := true }
def PebblePowersUptoSaid : Prop := pebblePowersUptoRow.holds Try.pinned (OpenSpec.upto pebblePowersSpec)

/-- 'backsteplaw44.PebbleBest', WHERE WHAT IT READS IS OF BULK AT MOST 1048576: true; the input reads as it did. -/
def pebbleBestUptoRow : OpenClaim := { program := "ytpeiajmgkhajoaa", sum := "51f4125b76a3af519df9ad14af1d2440b1aaa6e9adaac1ebc0df28dbb2ae9730", func := "backstep/backsteplaw44.PebbleBest", spec := "pebbleBest", unfollowed := true, recurses := true, apart := false, narrowed := true }
def PebbleBestUptoSaid : Prop := pebbleBestUptoRow.holds Try.pinned (OpenSpec.upto pebbleBestSpec)

/-- 'backsteplaw44.PebbleLegal', WHERE WHAT IT READS IS OF BULK AT MOST 1048576: true; the input reads as it did. -/
def pebbleLegalUptoRow : OpenClaim := { program := "ytpeiajmgkhajoaa", sum := "51f4125b76a3af519df9ad14af1d2440b1aaa6e9adaac1ebc0df28dbb2ae9730", func := "backstep/backsteplaw44.PebbleLegal", spec := "pebbleLegal", unfollowed := true, recurses := true, apart := false, narrowed := true }
def PebbleLegalUptoSaid : Prop := pebbleLegalUptoRow.holds Try.pinned (OpenSpec.upto pebbleLegalSpec)

/-- 'backsteplaw44.PebbleComplete', WHERE WHAT IT READS IS OF BULK AT MOST 1048576: true; the input reads as it did. -/
def pebbleCompleteUptoRow : OpenClaim := { program := "ytpeiajmgkhajoaa", sum := "51f4125b76a3af519df9ad14af1d2440b1aaa6e9adaac1ebc0df28dbb2ae9730", func := "backstep/backsteplaw44.PebbleComplete", spec := "pebbleComplete", unfollowed := true, recurses := true, apart := false, narrowed := true }
def PebbleCompleteUptoSaid : Prop := pebbleCompleteUptoRow.holds Try.pinned (OpenSpec.upto pebbleCompleteSpec)

/-- 'backsteplaw44.PebbleInverse', WHERE WHAT IT READS IS OF BULK AT MOST 1048576: true; the input reads as it did. -/
def pebbleInverseUptoRow : OpenClaim := { program := "ytpeiajmgkhajoaa", sum := "51f4125b76a3af519df9ad14af1d2440b1aaa6e9adaac1ebc0df28dbb2ae9730", func := "backstep/backsteplaw44.PebbleInverse", spec := "pebbleInverse", unfollowed := true, recurses := true, apart := false, narrowed := true }
def PebbleInverseUptoSaid : Prop := pebbleInverseUptoRow.holds Try.pinned (OpenSpec.upto pebbleInverseSpec)

/-- 'backsteplaw44.PebbleLeast', WHERE WHAT IT READS IS OF BULK AT MOST 1048576: true; the input reads as it did. -/
def pebbleLeastUptoRow : OpenClaim := { program := "ytpeiajmgkhajoaa", sum := "51f4125b76a3af519df9ad14af1d2440b1aaa6e9adaac1ebc0df28dbb2ae9730", func := "backstep/backsteplaw44.PebbleLeast", spec := "pebbleLeast", unfollowed := true, recurses := true, apart := false, narrowed := true }
def PebbleLeastUptoSaid : Prop := pebbleLeastUptoRow.holds Try.pinned (OpenSpec.upto pebbleLeastSpec)

/-- 'backsteplaw44.PebbleReach', WHERE WHAT IT READS IS OF BULK AT MOST 1048576: true; the input reads as it did. -/
def pebbleReachUptoRow : OpenClaim := { program := "ytpeiajmgkhajoaa", sum := "51f4125b76a3af519df9ad14af1d2440b1aaa6e9adaac1ebc0df28dbb2ae9730", func := "backstep/backsteplaw44.PebbleReach", spec := "pebbleReach", unfollowed := true, recurses := true, apart := false, narrowed := true }
def PebbleReachUptoSaid : Prop := pebbleReachUptoRow.holds Try.pinned (OpenSpec.upto pebbleReachSpec)

end Rows
end Go.Proofs.Ytpeiajmgkhajoaa
