/- The example of layer 43's chapter, in plain Lean. -/
import Derived.Test.YtehmmokkjojggaaDoorZk13
namespace Go.Proofs.YtehmmokkjojggaaDoor
set_option linter.unusedVariables false
set_option linter.unusedSimpArgs false

/-- the example: the length of a list -/
def lenS : ByteArray := ⟨#[108, 101, 110]⟩
def xsN : Nd := .mk 81 0 ⟨#[120, 115]⟩ []
def exLen : List Fn := [⟨lenS, [⟨⟨#[120, 115]⟩, true⟩], false, .mk 83 0 ⟨#[]⟩ [.mk 90 0 ⟨#[]⟩ [xsN], .mk 80 0 ⟨#[]⟩ [], .mk 82 8 ⟨#[]⟩ [.mk 80 1 ⟨#[]⟩ [], .mk 85 0 lenS [.mk 89 0 ⟨#[]⟩ [xsN]]]]⟩]
def exArg : List Vl := [⟨true, 0, [7, 8]⟩]
theorem exL_valid : (validE exLen).2 = 0 := by decide +kernel
theorem exL_size : ∀ j, j < exLen.length → sizeN (at' exLen j).body ≤ 200 := fun j hj => by
  obtain rfl : j = 0 := by simpa [exLen] using hj
  decide +kernel
theorem exA_len : ∀ a ∈ exArg, VLen a := fun a h => by
  have : a = ⟨true, 0, [7, 8]⟩ := by simpa [exArg] using h
  subst this
  unfold VLen; decide
theorem exL_one : predN exLen lenS [] exArg 100 = ⟨0, ⟨[7], [0]⟩, 0⟩ := by kernel_rfl
theorem exL_two : predN exLen lenS [lenS] exArg 100 = ⟨0, ⟨[1], [4]⟩, 14⟩ := by kernel_rfl
end Go.Proofs.YtehmmokkjojggaaDoor
