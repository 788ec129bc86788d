/- TapeCopies: for every input and output the law returns true: reading all and writing every number concatenates the input to the output; the reverse restores both. No condition. -/
import Derived.Test.YtpeiajmgkhajoabTapeI
import Derived.Test.YtpeiajmgkhajoabTapeP
namespace Go.Proofs.Ytpeiajmgkhajoab
open Go.ChangeShapes Go.WideShapes Go.ChangeAt Go.RowKit
set_option linter.unusedVariables false

def CopyRel (B : Nat) (w wr : World) (base b : Nat) (i o : List Int) (j : Nat) : Prop := j ≤ i.length ∧ Below B w wr ∧ ∃ S, TapeAt wr base b 48 (i.drop j) (o ++ i.take j) S

theorem copy_step (i o : List Int) (j : Nat) (hj : j < i.length) (hl : i.length + o.length ≤ 2000) :
    readE (i.drop j) = 0 ∧ (i.drop j).tail = i.drop (j + 1) ∧ readV (i.drop j) = nth i j ∧ unreadE (o ++ i.take j) = 0 ∧ writeL (o ++ i.take j) (nth i j) = o ++ i.take (j + 1) := by
  have h0 : ¬ (i.drop j).length = 0 := by simp; omega
  have h1 : ¬ 4096 ≤ (o ++ i.take j).length := by simp; omega
  refine ⟨by rw [readE, if_neg h0], by simp, ?_, by rw [unreadE, if_neg h1], ?_⟩
  · rw [readV, if_neg h0]; simp [nth]
  · rw [writeL, if_neg h1, List.append_assoc, List.take_add_one]
    simp [nth, hj]

theorem uncopy_step (i o : List Int) (j : Nat) (hj : j + 1 ≤ i.length) (hl : i.length + o.length ≤ 2000) :
    readE (o ++ i.take (j + 1)) = 0 ∧ (o ++ i.take (j + 1)).dropLast = o ++ i.take j ∧ unwriteV (o ++ i.take (j + 1)) = nth i j ∧ unreadE (i.drop (j + 1)) = 0 ∧ unreadL (i.drop (j + 1)) (nth i j) = i.drop j := by
  have e : i.take (j + 1) = i.take j ++ [nth i j] := by rw [List.take_add_one]; simp [nth, show j < i.length by omega]
  have h0 : ¬ (o ++ i.take (j + 1)).length = 0 := by rw [e]; simp
  have h1 : ¬ 4096 ≤ (i.drop (j + 1)).length := by simp; omega
  refine ⟨by rw [readE, if_neg h0], ?_, ?_, by rw [unreadE, if_neg h1], ?_⟩
  · rw [e, ← List.append_assoc, List.dropLast_concat]
  · rw [unwriteV, if_neg h0, e, ← List.append_assoc]; simp [nth]
  · rw [unreadL, if_neg h1, nth, List.drop_eq_getElem_cons (by omega : j < i.length), List.getElem?_eq_getElem (by omega)]; rfl

set_option maxHeartbeats 3200000 in
theorem walk_tapeCopies (w : World) (v : Value) (i : List Int) (hv : RInts w v i) (u : Value) (o : List Int) (hu : RInts w u o) :
    Calls Try.prog 8 #[v, u] w fun e w' => e = .returned (.bool true) ∧ Below w.heap.size w w' := by
  have l1 := hv.1.1
  have l2 := hu.1.1
  obtain ⟨av, cv, rfl⟩ := hv.1.form
  obtain ⟨au, cu, rfl⟩ := hu.1.form
  by_cases hg : 2000 < i.length + o.length
  · have d1 : decide (2000 < (i.length : Int) + (o.length : Int)) = true := by simp; omega
    go_enter Try.func8, Try.ntmps8
    go_wp2_with fail
    refine (awake_any _).mono ?_
    rintro e w1 ⟨rfl, hb1⟩
    go_wp2
    go_ret
    exact ⟨rfl, hb1⟩
  · have d1 : decide (2000 < (i.length : Int) + (o.length : Int)) = false := by simp; omega
    have hl : i.length + o.length ≤ 2000 := by omega
    clear hg
    go_enter Try.func8, Try.ntmps8
    go_wp2_with fail
    refine (awake_any _).mono ?_
    rintro e w1 ⟨rfl, hb1⟩
    have hv1 := hv.below hb1
    have hu1 := hu.below hb1
    have hz1 := hb1.size
    go_wp2_with fail
    refine (new_any _ _ i o w1 hv1.1 hu1.1 (by omega) (by omega)).mono ?_
    rintro e w2 ⟨b, S, rfl, ht, hb2⟩
    have hR : CopyRel w.heap.size w w2 w1.heap.size b i o 0 := ⟨Nat.zero_le _, hb1.trans (hb2.mono hz1), S, by simpa using ht⟩
    clear hv1 hu1 hb1 ht hb2
    go_wp2_with fail
    go_loopw [29] (fun x wr => ∃ j : Nat, x = .int .i64 j ∧ CopyRel w.heap.size w wr w1.heap.size b i o j) (fun x _ => i.length - (intOf x).toNat)
    case atStart => exact ⟨0, rfl, hR⟩
    case round =>
      clear hR
      obtain ⟨j, rfl, hj, hB, S, ht⟩ := hrel
      have hS := ht.base_le
      have hz := hB.size
      by_cases hlt : j < i.length
      · obtain ⟨c1, c2, c3, c4, c5⟩ := copy_step i o j hlt hl
        have C1 := Lib.hid c1
        have C2 := Lib.hid c2
        have C3 := Lib.hid c3
        have C4 := Lib.hid c4
        have C5 := Lib.hid c5
        clear c1 c2 c3 c4 c5
        have hx64 : In64 (nth i j) := hv.1.2.1 _ (nth_mem hlt)
        go_wp2_with fail
        refine (read_any wr w1.heap.size b _ _ S ht).mono ?_
        rintro e w4 ⟨rfl, hl⟩
        rw [C1.out, C3.out]
        rw [C2.out] at hl
        have hb4 := hl.below (fun k hk => (hS k hk).1) ht.le
        obtain ⟨S4, t4, _, _⟩ := hl
        have hB4 : Below w.heap.size w w4 := hB.trans (hb4.mono hz1)
        have hS4 := t4.base_le
        clear hb4 ht hS hB
        go_wp2_with fail
        refine (write_any w4 w1.heap.size b _ _ (nth i j) S4 t4 hx64).mono ?_
        rintro e w5 ⟨rfl, hl⟩
        rw [C4.out]
        rw [C5.out] at hl
        have hb5 := hl.below (fun k hk => (hS4 k hk).1) t4.le
        obtain ⟨S5, t5, _, _⟩ := hl
        have hR : CopyRel w.heap.size w w5 w1.heap.size b i o (j + 1) := ⟨by omega, hB4.trans (hb5.mono hz1), S5, t5⟩
        clear hb5 t4 hS4 hB4 t5
        go_wp2
        go_roundw
        case rel => exact ⟨j + 1, by go_num, hR⟩
        case measure => simp [intOf]; omega
      · obtain rfl : j = i.length := by omega
        have d2 : decide (i.length < i.length) = false := by simp
        have hv2 := hv.below hB
        have hu2 := hu.below hB
        simp only [List.drop_length, List.take_length] at ht
        have hA : Below wr.heap.size wr (wr.alloc (.cells #[] 3)) := (Below.refl _ _).alloc (Nat.le_refl _) _
        have hE : Own (wr.alloc (.cells #[] 3)) wr.heap.size 3 (.slice (some ⟨wr.heap.size, 0, none⟩) 0 0) [] := own_lit wr wr.heap.size 3 [] (by simp) (fun x hx => by simp at hx) (Nat.le_refl _)
        go_wp2_with (at_builtin; refine wpl_appends TI rfl (.tmp 46) (.tmp 47) rfl rfl rfl hE (hu2.1.below hA) (by simp; omega) (by simp) ?_)
        intro v6 w6 h6 hg6 hn6
        have hb6 : Below wr.heap.size wr w6 := below_grown hA hE hg6 (by simp)
        have hz6 := hb6.size
        obtain ⟨a6, c6, rfl⟩ := h6.form
        go_wp2_with (at_builtin; refine wpl_appends TI rfl (.tmp 48) (.tmp 49) rfl rfl rfl h6 (hv2.1.below hb6) (by omega) hz6 ?_)
        intro v7 w7 h7 hg7 hn7
        have hb7 : Below wr.heap.size wr w7 := below_grown hb6 h6 hg7 hz6
        have t7 := ht.below hb7
        have hB7 : Below w.heap.size w w7 := hB.trans (hb7.mono hz)
        have hz7 := hB7.size
        clear hE hA hg6 hn6 hb6 h6 hg7 hn7
        go_wp2_with fail
        refine (same_any w7 _ b _ _ [] (o ++ i) S _ _ t7 (IntsAt.nil _) h7.ints).mono ?_
        rintro e w8 ⟨rfl, hb8⟩
        have hdd : (decide (([] : List Int) = []) && decide (o ++ i = o ++ i)) = true := by simp
        rw [hdd]
        have hR : CopyRel w.heap.size w w8 w1.heap.size b i o i.length := ⟨Nat.le_refl _, hB7.trans (hb8.mono hz7), S, by simpa using t7.below hb8⟩
        clear t7 hb8 hB7 h7 hb7 ht hS hB hv2 hu2
        go_wp2_with fail
        go_loopw [55] (fun x wr => ∃ j : Nat, x = .int .i64 j ∧ j ≤ i.length ∧ CopyRel w.heap.size w wr w1.heap.size b i o (i.length - j)) (fun x _ => i.length - (intOf x).toNat)
        case atStart => exact ⟨0, rfl, Nat.zero_le _, hR⟩
        case round =>
          clear hR
          obtain ⟨j, rfl, hj, hjj, hB, S, ht⟩ := hrel
          have hS := ht.base_le
          by_cases hlt : j < i.length
          · obtain ⟨c1, c2, c3, c4, c5⟩ := uncopy_step i o (i.length - (j + 1)) (by omega) hl
            rw [show i.length - (j + 1) + 1 = i.length - j by omega] at c1 c2 c3 c4 c5
            have C1 := Lib.hid c1
            have C2 := Lib.hid c2
            have C3 := Lib.hid c3
            have C4 := Lib.hid c4
            have C5 := Lib.hid c5
            clear c1 c2 c3 c4 c5
            have hx64 : In64 (nth i (i.length - (j + 1))) := hv.1.2.1 _ (nth_mem (by omega))
            go_wp2_with fail
            refine (unwrite_any _ w1.heap.size b _ _ S ht).mono ?_
            rintro e w4 ⟨rfl, hl⟩
            rw [C1.out, C3.out]
            rw [C2.out] at hl
            have hb4 := hl.below (fun k hk => (hS k hk).1) ht.le
            obtain ⟨S4, t4, _, _⟩ := hl
            have hB4 : Below w.heap.size w w4 := hB.trans (hb4.mono hz1)
            have hS4 := t4.base_le
            clear hb4 ht hS hB
            go_wp2_with fail
            refine (unread_any w4 w1.heap.size b _ _ _ S4 t4 hx64).mono ?_
            rintro e w5 ⟨rfl, hl⟩
            rw [C4.out]
            rw [C5.out] at hl
            have hb5 := hl.below (fun k hk => (hS4 k hk).1) t4.le
            obtain ⟨S5, t5, _, _⟩ := hl
            have hR : CopyRel w.heap.size w w5 w1.heap.size b i o (i.length - (j + 1)) := ⟨by omega, hB4.trans (hb5.mono hz1), S5, t5⟩
            clear hb5 t4 hS4 hB4 t5
            go_wp2
            go_roundw
            case rel => exact ⟨j + 1, by go_num, by omega, hR⟩
            case measure => simp [intOf]; omega
          · obtain rfl : j = i.length := by omega
            have d2 : decide (i.length < i.length) = false := by simp
            simp only [Nat.sub_self, List.drop_zero, List.take_zero, List.append_nil] at ht
            have hv3 := hv.below hB
            have hu3 := hu.below hB
            have hzr := hB.size
            go_wp2_with fail
            refine (same_any _ _ b _ _ i o S _ _ ht hv3.1 hu3.1).mono ?_
            rintro e w8 ⟨rfl, hb8⟩
            go_wp2
            go_ret
            exact ⟨by simp, hB.trans (hb8.mono hzr)⟩

set_option maxRecDepth 100000 in
theorem lifted_tapeCopies (os : Os) (started : os.Started) (H : Type) (enc : TypeId × Value → H) :
    ReturnsInHanded {} Try.checked os 8 .any (Rows.tapeCopiesSpec.pre6 enc Try.prog Try.f8 Rows.tapeCopiesRow.domain false) (Rows.tapeCopiesSpec.post enc Try.prog Try.f8 false true false false) := by
  refine returnsInHanded_of_change_sized (C := Try.checked) own started (by kernel_rfl) Try.func8
    (ChangeSpec.witness6 (enc := enc) (C := Try.checked) false ⟨#[], #[.slice none 0 0, .slice none 0 0], []⟩ 8 (by kernel_rfl) (by kernel_rfl) (by kernel_rfl) (by kernel_rfl)) ?_
  intro W base args ds gs before hval0 hW hcnd hsz0 _
  have hsz : (DataW.weightsEach Try.prog (Try.f8.params.toList ++ Rows.tapeCopiesSpec.plain.varTypes Try.prog) (ds ++ gs)).all (· ≤ reachBytes) = true := hsz0
  have hval : ∀ (j : Nat) t v, Try.f8.params[j]? = some t → args[j]? = some v → Value.okWide Try.prog W .any base t v := hval0
  have hW' := hW
  obtain ⟨p, q, hA0, hV, rfl, hfz, hnd⟩ := hW
  have hA : DataW.TrodAll enc Try.prog W 0 (fun _ => true) true Try.f8.params.toList args.toList ds p := hA0
  rw [Try.params8] at hA hval hsz
  obtain ⟨v0, vs0, d0, ds0, p0, q0, hargs, rfl, rfl, h0, r0⟩ := trodAll_cons hA
  obtain ⟨v1, vs1, d1, ds1, p1, q1, rfl, rfl, rfl, h1, r1⟩ := trodAll_cons r0
  obtain ⟨rfl, rfl, rfl⟩ := trodAll_nil r1
  obtain rfl : args = #[v0, v1] := by cases args; simp_all
  obtain ⟨rfl, rfl⟩ := trodVars_none hV
  have k0 := h0
  have lt0 : ∀ x ∈ p0, x.block < W.heap.size := by obtain ⟨m, hm⟩ := k0; exact DataW.trod_lt m _ _ _ hm
  obtain ⟨l0, i0⟩ := openRInts (hval 0 22 v0 rfl rfl) h0 (fun elems spare e => sized_slice hsz (j := 0) rfl (by rw [e]; rfl) Try.underlying22)
  have k1 := h1
  have lt1 : ∀ x ∈ p1, x.block < W.heap.size := by obtain ⟨m, hm⟩ := k1; exact DataW.trod_lt m _ _ _ hm
  obtain ⟨l1, i1⟩ := openRInts (hval 1 22 v1 rfl rfl) h1 (fun elems spare e => sized_slice hsz (j := 1) rfl (by rw [e]; rfl) Try.underlying22)
  clear hA0 hval0
  refine (walk_tapeCopies W v0 l0 i0 v1 l1 i1).mono fun e W' ⟨he, bel⟩ => ?_
  subst he
  exact ⟨_, rfl, _, _, _, [], _, [], hW', trodAll_mk1 (shut_bool Try.underlying4 _), (trodAll_cons_mk (Below.trod laidOut (by kernel_rfl) (of_decide_eq_true (by kernel_rfl)) k0 bel lt0) (trodAll_cons_mk (Below.trod laidOut (by kernel_rfl) (of_decide_eq_true (by kernel_rfl)) k1 bel lt1) trodAll_mk0)), rfl, bel.frame _, fun h => by cases h⟩

/-- the given statement -/
theorem proved_tapeCopies : Rows.TapeCopiesSaid :=
  OpenClaim.holds_of_wide 8 Try.f8 rfl rfl rfl rfl rfl rfl rfl ⟨rfl, rfl, rfl, rfl, rfl⟩ rfl rfl rfl rfl rfl (by kernel_rfl) Try.func8 (by kernel_rfl)
    (of_decide_eq_true (by kernel_rfl)) (by unfold Func.isWrapper; first | (rw [if_pos (by decide +kernel)]; kernel_rfl) | (rw [if_neg (by decide +kernel)]; exact ⟨rfl, rfl⟩))
    (fun os started H enc _ => lifted_tapeCopies os started H enc)
#print axioms proved_tapeCopies

end Go.Proofs.Ytpeiajmgkhajoab
