/- Walks of the small functions of package pebble and of its reference: moves as bits, the rest. -/
import Derived.Test.YtpeiajmgkhajoaaPebB
namespace Go.Proofs.Ytpeiajmgkhajoaa
set_option linter.unusedVariables false
open Go.RowKit

def oc1 (x : Int) : Int := IntKind.u64.wrap (bits BinOp.and IntKind.u64 (x / 2) 6148914691236517205 + bits BinOp.and IntKind.u64 x 6148914691236517205)
def oc2 (x : Int) : Int := IntKind.u64.wrap (bits BinOp.and IntKind.u64 (x / 4) 3689348814741910323 + bits BinOp.and IntKind.u64 x 3689348814741910323)
def oc3 (x : Int) : Int := bits BinOp.and IntKind.u64 (IntKind.u64.wrap (x / 16 + x)) 1085102592571150095
def oc4 (x : Int) : Int := IntKind.u64.wrap (x + x / 256)
def oc5 (x : Int) : Int := IntKind.u64.wrap (x + x / 65536)
def oc6 (x : Int) : Int := IntKind.u64.wrap (x + x / 4294967296)
def oc7 (x : Int) : Int := bits BinOp.and IntKind.i64 (wrap64 x) 127

theorem oc_eq : ∀ x : Fin 256, oc7 (oc6 (oc5 (oc4 (oc3 (oc2 (oc1 (x.val : Int))))))) = (pop 12 x.val : Int) := by decide +kernel

set_option maxHeartbeats 800000 in
theorem ones_any (x : Nat) (w : World) (h1 : x < 256) :
    Calls Try.prog 30 #[.int .u64 x] w fun e w' => e = .returned (.int .i64 (pop 12 x)) ∧ w = w' := by
  have fin := Lib.hid (oc_eq ⟨x, h1⟩)
  obtain ⟨y1, e1⟩ : ∃ y : Int, oc1 x = y := ⟨_, rfl⟩
  obtain ⟨y2, e2⟩ : ∃ y : Int, oc2 y1 = y := ⟨_, rfl⟩
  obtain ⟨y3, e3⟩ : ∃ y : Int, oc3 y2 = y := ⟨_, rfl⟩
  obtain ⟨y4, e4⟩ : ∃ y : Int, oc4 y3 = y := ⟨_, rfl⟩
  obtain ⟨y5, e5⟩ : ∃ y : Int, oc5 y4 = y := ⟨_, rfl⟩
  obtain ⟨y6, e6⟩ : ∃ y : Int, oc6 y5 = y := ⟨_, rfl⟩
  have F : Hid (oc7 y6 = pop 12 x) := by
    rw [← e6, ← e5, ← e4, ← e3, ← e2, ← e1]; exact fin.out
  clear fin
  unfold oc1 at e1; unfold oc2 at e2; unfold oc3 at e3; unfold oc4 at e4; unfold oc5 at e5; unfold oc6 at e6
  go_enter Try.func30, Try.ntmps30
  go_wp2
  go_ret
  exact ⟨congrArg (fun z => Ending.returned (.int .i64 z)) F.out, rfl⟩
end Go.Proofs.Ytpeiajmgkhajoaa
