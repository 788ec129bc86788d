/- TapeFull: for every lack and number the law returns true: exactly MaxTape numbers fit. No condition. -/
import Derived.Test.YtpeiajmgkhajoabTapeI
import Derived.Test.YtpeiajmgkhajoabTapeP
namespace Go.Proofs.Ytpeiajmgkhajoab
open Go.ChangeShapes Go.WideShapes Go.ChangeAt Go.RowKit
set_option linter.unusedVariables false

def FullRel (B : Nat) (w wr : World) (base b q j : Nat) : Prop := j ≤ q ∧ Below B w wr ∧ ∃ i o S, TapeAt wr base b 48 i o S ∧ i.length + q = 4096 + j ∧ o.length + q = 4096 + j

set_option maxHeartbeats 1600000 in
theorem walk_tapeFull (w : World) (lack : Int) (hl8 : 0 ≤ lack ∧ lack ≤ 255) (n : Int) (hn : -9223372036854775808 ≤ n ∧ n ≤ 9223372036854775807) :
    Calls Try.prog 9 #[.int .u8 lack, .int .i64 n] w fun e w' => e = .returned (.bool true) ∧ Below w.heap.size w w' := by
  obtain ⟨q, hq⟩ : ∃ q : Nat, lack % 21 = (q : Int) := ⟨(lack % 21).toNat, by omega⟩
  have hq20 : q ≤ 20 := by omega
  have hn64 : In64 n := hn
  have hcv : IntKind.i64.wrap lack = lack := IntWalk.i64_in _ (by omega)
  obtain ⟨m, hm⟩ : ∃ m : Nat, m = 4096 - q := ⟨_, rfl⟩
  have HM := Lib.hid hm
  clear hm
  go_enter Try.func9, Try.ntmps9
  go_wp2_with fail
  refine (awake_any w).mono ?_
  rintro e w1 ⟨rfl, hb1⟩
  have hz1 := hb1.size
  go_wp2_with (refine wpl_makeInts TI rfl (.tmp 15) (.tmp 15) rfl m rfl rfl (by have := HM.out; omega) (by have := HM.out; omega) (by have := HM.out; omega) (Nat.le_refl _) ?_)
  intro w2 hmk hg2
  have hb2 : Below w1.heap.size w1 w2 := (Below.refl _ w1).grown hg2 (Nat.le_refl _) (fun k h => by simp at h)
  have hz2 := hb2.size
  have hml : (List.replicate m (0 : Int)).length ≤ 4096 := by have := HM.out; simp; omega
  go_wp2_with fail
  refine (new_any _ _ _ _ w2 hmk.ints hmk.ints hml hml).mono ?_
  rintro e w3 ⟨b, S, rfl, ht, hb3⟩
  have hB3 : Below w.heap.size w w3 := (hb1.trans (hb2.mono hz1)).trans (hb3.mono (by omega))
  have hR : FullRel w.heap.size w w3 w2.heap.size b q 0 := ⟨Nat.zero_le _, hB3, _, _, S, ht, by have := HM.out; simp; omega, by have := HM.out; simp; omega⟩
  have hzz : w.heap.size ≤ w2.heap.size := by omega
  clear hmk hg2 hb1 hb2 hb3 ht hB3 hml hz1 hz2
  go_wp2_with fail
  go_loopw [26] (fun x wr => ∃ j : Nat, x = .int .i64 j ∧ FullRel w.heap.size w wr w2.heap.size b q j) (fun x _ => q - (intOf x).toNat)
  case atStart => exact ⟨0, rfl, hR⟩
  case round =>
    clear hR
    obtain ⟨j, rfl, hj, hB, i, o, S, ht, hi, ho⟩ := hrel
    have HI := Lib.hid hi
    have HO := Lib.hid ho
    clear hi ho
    have hS := ht.base_le
    by_cases hlt : j < q
    · have e1 : unreadE i = 0 := by have := HI.out; rw [unreadE, if_neg (by omega)]
      have e2 : unreadE o = 0 := by have := HO.out; rw [unreadE, if_neg (by omega)]
      have E1 := Lib.hid e1
      have E2 := Lib.hid e2
      clear e1 e2
      go_wp2_with fail
      refine (unread_any wr w2.heap.size b i o n S ht hn64).mono ?_
      rintro e w4 ⟨rfl, hl⟩
      rw [E1.out]
      have hb4 := hl.below (fun k hk => (hS k hk).1) ht.le
      obtain ⟨S4, t4, _, _⟩ := hl
      have hB4 : Below w.heap.size w w4 := hB.trans (hb4.mono hzz)
      have hS4 := t4.base_le
      clear hb4 ht hS hB
      go_wp2_with fail
      refine (write_any w4 w2.heap.size b _ o n S4 t4 hn64).mono ?_
      rintro e w5 ⟨rfl, hl⟩
      rw [E2.out]
      have hb5 := hl.below (fun k hk => (hS4 k hk).1) t4.le
      obtain ⟨S5, t5, _, _⟩ := hl
      have hB5 : Below w.heap.size w w5 := hB4.trans (hb5.mono hzz)
      have l1 : (unreadL i n).length + q = 4096 + (j + 1) := by have := HI.out; rw [unreadL, if_neg (by omega)]; simp; omega
      have l2 : (writeL o n).length + q = 4096 + (j + 1) := by have := HO.out; rw [writeL, if_neg (by omega)]; simp; omega
      have hR : FullRel w.heap.size w w5 w2.heap.size b q (j + 1) := ⟨by omega, hB5, _, _, S5, t5, l1, l2⟩
      clear hb5 t4 hS4 hB4 t5 hB5 l1 l2
      go_wp2
      go_roundw
      case rel => exact ⟨j + 1, by go_num, hR⟩
      case measure => simp [intOf]; omega
    · have d1 : decide (j < q) = false := by simpa using hlt
      have e1 : unreadE i = 5 := by have := HI.out; rw [unreadE, if_pos (by omega)]
      have e2 : unreadE o = 5 := by have := HO.out; rw [unreadE, if_pos (by omega)]
      have e3 : unreadL i n = i := by have := HI.out; rw [unreadL, if_pos (by omega)]
      have e4 : writeL o n = o := by have := HO.out; rw [writeL, if_pos (by omega)]
      have e5 : i.length = 4096 := by have := HI.out; omega
      have e6 : o.length = 4096 := by have := HO.out; omega
      have E1 := Lib.hid e1
      have E2 := Lib.hid e2
      have E3 := Lib.hid e3
      have E4 := Lib.hid e4
      have E5 := Lib.hid e5
      have E6 := Lib.hid e6
      clear e1 e2 e3 e4 e5 e6
      go_wp2_with fail
      refine (unread_any wr w2.heap.size b i o n S ht hn64).mono ?_
      rintro e w4 ⟨rfl, hl⟩
      rw [E1.out]
      rw [E3.out] at hl
      have hb4 := hl.below (fun k hk => (hS k hk).1) ht.le
      obtain ⟨S4, t4, _, _⟩ := hl
      have hB4 : Below w.heap.size w w4 := hB.trans (hb4.mono hzz)
      have hS4 := t4.base_le
      clear hb4 ht hS hB
      go_wp2_with fail
      refine (write_any w4 w2.heap.size b i o n S4 t4 hn64).mono ?_
      rintro e w5 ⟨rfl, hl⟩
      rw [E2.out]
      rw [E4.out] at hl
      have hb5 := hl.below (fun k hk => (hS4 k hk).1) t4.le
      obtain ⟨S5, t5, _, _⟩ := hl
      have hB5 : Below w.heap.size w w5 := hB4.trans (hb5.mono hzz)
      clear hb5 t4 hS4 hB4
      go_wp2_with fail
      refine (in_any w5 w2.heap.size b i o S5 t5).mono ?_
      rintro e w6 ⟨v6, rfl, h6, hb6⟩
      obtain ⟨a6, c6, rfl⟩ := h6.form
      have t6 := t5.below hb6
      have hz5 := hB5.size
      have hB6 : Below w.heap.size w w6 := hB5.trans (hb6.mono hz5)
      rw [E5.out]
      clear h6 hb6 t5 hB5
      go_wp2_with fail
      refine (out_any w6 w2.heap.size b i o S5 t6).mono ?_
      rintro e w7 ⟨v7, rfl, h7, hb7⟩
      obtain ⟨a7, c7, rfl⟩ := h7.form
      have hz6 := hB6.size
      rw [E6.out]
      clear h7 t6
      go_wp2
      go_ret
      exact ⟨rfl, hB6.trans (hb7.mono hz6)⟩

set_option maxRecDepth 100000 in
theorem lifted_tapeFull (os : Os) (started : os.Started) (H : Type) (enc : TypeId × Value → H) :
    ReturnsInHanded {} Try.checked os 9 .any (Rows.tapeFullSpec.pre6 enc Try.prog Try.f9 Rows.tapeFullRow.domain false) (Rows.tapeFullSpec.post enc Try.prog Try.f9 false true false false) := by
  refine returnsInHanded_of_change_sized (C := Try.checked) own started (by kernel_rfl) Try.func9
    (ChangeSpec.witness6 (enc := enc) (C := Try.checked) false ⟨#[], #[.int .u8 0, .int .i64 0], []⟩ 8 (by kernel_rfl) (by kernel_rfl) (by kernel_rfl) (by kernel_rfl)) ?_
  intro W base args ds gs before hval0 hW hcnd hsz0 _
  have hsz : (DataW.weightsEach Try.prog (Try.f9.params.toList ++ Rows.tapeFullSpec.plain.varTypes Try.prog) (ds ++ gs)).all (· ≤ reachBytes) = true := hsz0
  have hval : ∀ (j : Nat) t v, Try.f9.params[j]? = some t → args[j]? = some v → Value.okWide Try.prog W .any base t v := hval0
  have hW' := hW
  obtain ⟨p, q, hA0, hV, rfl, hfz, hnd⟩ := hW
  have hA : DataW.TrodAll enc Try.prog W 0 (fun _ => true) true Try.f9.params.toList args.toList ds p := hA0
  rw [Try.params9] at hA hval hsz
  obtain ⟨v0, vs0, d0, ds0, p0, q0, hargs, rfl, rfl, h0, r0⟩ := trodAll_cons hA
  obtain ⟨v1, vs1, d1, ds1, p1, q1, rfl, rfl, rfl, h1, r1⟩ := trodAll_cons r0
  obtain ⟨rfl, rfl, rfl⟩ := trodAll_nil r1
  obtain rfl : args = #[v0, v1] := by cases args; simp_all
  obtain ⟨rfl, rfl⟩ := trodVars_none hV
  obtain ⟨a0, rfl, rfl, rfl, w0⟩ := open_int Try.underlying5 (hval 0 5 v0 rfl rfl) h0
  obtain ⟨a1, rfl, rfl, rfl, w1⟩ := open_int Try.underlying3 (hval 1 3 v1 rfl rfl) h1
  clear hA0 hval0
  refine (walk_tapeFull W a0 (rangeU8 w0) a1 (rangeI64 w1)).mono fun e W' ⟨he, bel⟩ => ?_
  subst he
  exact ⟨_, rfl, _, _, _, [], _, [], hW', trodAll_mk1 (shut_bool Try.underlying4 _), (trodAll_cons_mk (shut_int Try.underlying5 w0) (trodAll_cons_mk (shut_int Try.underlying3 w1) trodAll_mk0)), rfl, bel.frame _, fun h => by cases h⟩

/-- the given statement -/
theorem proved_tapeFull : Rows.TapeFullSaid :=
  OpenClaim.holds_of_wide 9 Try.f9 rfl rfl rfl rfl rfl rfl rfl ⟨rfl, rfl, rfl, rfl, rfl⟩ rfl rfl rfl rfl rfl (by kernel_rfl) Try.func9 (by kernel_rfl)
    (of_decide_eq_true (by kernel_rfl)) (by unfold Func.isWrapper; first | (rw [if_pos (by decide +kernel)]; kernel_rfl) | (rw [if_neg (by decide +kernel)]; exact ⟨rfl, rfl⟩))
    (fun os started H enc _ => lifted_tapeFull os started H enc)
#print axioms proved_tapeFull

end Go.Proofs.Ytpeiajmgkhajoab
