/- Walks of package backsteplaw41: normal. -/
import Derived.Test.YtehmmokkjojggabGreatDoorKgG
namespace Go.Proofs.YtehmmokkjojggabGreatDoor
set_option linter.unusedVariables false
set_option linter.unusedSimpArgs false
open Go.RowKit

def Normal41 (lib : List Fn) (w : World) (e : Ending) (w' : World) : Prop := Below w.heap.size w w' ∧ ((∃ a n c, e = .returned (.tuple #[.slice a n c, .bool false])) ∨ ∃ a c, e = .returned (.tuple #[.slice a (normL lib).length c, .bool true]) ∧ (GreatOk lib ∧ (validE lib).2 = 0) ∧ AFnsAt Any w' (.slice a (normL lib).length c) (normL lib))
set_option maxRecDepth 100000 in set_option maxHeartbeats 3200000 in theorem normal41_any (lv : Value) (lib : List Fn) (A : Nat → Prop) (w : World) (hl : FnsAt A w lv lib) (ht : Tab w) :
    Calls Tryz.prog 27 #[lv] w (Normal41 lib w) := by
  obtain ⟨hll, la, lc, rfl⟩ := hl.form
  have HL := Lib.hid hl
  have HT := Lib.hid ht
  have HG := Lib.hid (great37_any _ lib A w hl)
  clear hl ht
  go_enter Tryz.func27, Tryz.ntmps27
  go_wp2_with fail
  refine HG.out.mono ?_
  rintro e w1 ⟨x, rfl, hx, hx2, hb1⟩
  have HX2 := Lib.hid hx2
  clear hx2
  rcases hx with rfl | rfl
  · have hg := HX2.out rfl
    have hmod : Modest lib := fun j hj => by have := hg.bod j hj; omega
    have HGO := Lib.hid hg
    have HNO := Lib.hid (normalizeL_any _ lib A w1 (HL.out.stays (Stays.of_below hb1)) hmod (HT.out.below hb1))
    clear hmod hg HX2
    by_cases hv : (validE lib).2 = 0
    · have HV := Lib.hid hv
      clear hv
      go_wp2_with (go_at_call 36; refine HNO.out.mono ?_; intro e w2 hp1; obtain ⟨v, rfl, hv1⟩ := hp1.2.1 HV.out; obtain ⟨_, a1, c1, rfl⟩ := hv1.form; have hb2 := hp1.2.2; have HV1 := Lib.hid hv1; clear hp1 hv1)
      go_ret2
      exact ⟨hb1.trans (hb2.mono hb1.size), .inr ⟨_, _, rfl, ⟨HGO.out, HV.out⟩, HV1.out⟩⟩
    · have HV := Lib.hid hv
      have dv : ((validE lib).2 == 0) = false := by simp [hv]
      clear hv
      go_wp2_with (go_at_call 36; refine HNO.out.mono ?_; intro e w2 hp1; obtain rfl := hp1.1 HV.out; have hb2 := hp1.2.2; clear hp1)
      go_ret2
      exact ⟨hb1.trans (hb2.mono hb1.size), .inl ⟨_, _, _, rfl⟩⟩
  · go_wp2
    go_ret2
    exact ⟨hb1, .inl ⟨_, _, _, rfl⟩⟩
end Go.Proofs.YtehmmokkjojggabGreatDoor
