/- TapeDoes: for every input, output and list of operations the law returns true: every result, and the final input and output, are those of the reference. No condition. -/
import Derived.Test.YtpeiajmgkhajoabTapeI
namespace Go.Proofs.Ytpeiajmgkhajoab
open Go.ChangeShapes Go.WideShapes Go.ChangeAt Go.RowKit
set_option linter.unusedVariables false

def DoesRel (B : Nat) (w wr : World) (base b r : Nat) (l : List (Int × Int)) (k : Nat) : Prop := k ≤ l.length ∧ ∃ i o, Both B w wr base b r i o

set_option maxHeartbeats 3200000 in
theorem walk_tapeDoes (w : World) (v : Value) (i : List Int) (hv : RInts w v i) (u : Value) (o : List Int) (hu : RInts w u o) (x : Value) (l : List (Int × Int)) (hx : OpsAt w x l) :
    Calls Try.prog 4 #[v, u, x] w fun e w' => e = .returned (.bool true) ∧ Below w.heap.size w w' := by
  cases hgr : (decide (5000 < i.length) || (decide (5000 < o.length) || decide (60 < l.length))) with
  | true =>
    have HG := Lib.hid hgr
    clear hgr
    go_enter Try.func4, Try.ntmps4
    go_wp2_with fail
    refine (awake_any w).mono ?_
    rintro e w1 ⟨rfl, hb1⟩
    go_wp2_with fail
    refine (great_any v u x i o l w1 (hv.1.below hb1) (hu.1.below hb1) (hx.below hb1)).mono ?_
    rintro e w2 ⟨rfl, rfl⟩
    rw [HG.out]
    go_wp2
    go_ret
    exact ⟨rfl, hb1⟩
  | false =>
    have HG := Lib.hid hgr
    clear hgr
    by_cases hfull : 4096 < i.length ∨ 4096 < o.length
    · have HF := Lib.hid hfull
      clear hfull
      go_enter Try.func4, Try.ntmps4
      go_wp2_with fail
      refine (awake_any w).mono ?_
      rintro e w1 ⟨rfl, hb1⟩
      have hv1 := hv.below hb1
      have hu1 := hu.below hb1
      have hx1 := hx.below hb1
      clear hv hu hx
      go_wp2_with fail
      refine (great_any v u x i o l w1 hv1.1 hu1.1 hx1).mono ?_
      rintro e w2 ⟨rfl, rfl⟩
      rw [HG.out]
      go_wp2_with fail
      refine (new_full v u i o w1 hv1.1 hu1.1 HF.out).mono ?_
      rintro e w2 ⟨rfl, rfl⟩
      obtain ⟨a, cap, rfl⟩ := hv1.1.form
      obtain ⟨a', cap', rfl⟩ := hu1.1.form
      by_cases h1 : 4096 < i.length
      · have d1 : decide (4096 < (i.length : Int)) = true := by simp; omega
        go_wp2
        go_ret
        exact ⟨rfl, hb1⟩
      · have d1 : decide (4096 < (i.length : Int)) = false := by simp; omega
        have d2 : decide (4096 < (o.length : Int)) = true := by have := HF.out; simp; omega
        go_wp2
        go_ret
        exact ⟨rfl, hb1⟩
    · have hi4 : i.length ≤ 4096 := by omega
      have ho4 : o.length ≤ 4096 := by omega
      have hln := hx.1
      clear hfull
      go_enter Try.func4, Try.ntmps4
      go_wp2_with fail
      refine (awake_any w).mono ?_
      rintro e w1 ⟨rfl, hb1⟩
      have hv1 := hv.below hb1
      have hu1 := hu.below hb1
      have hx1 := hx.below hb1
      clear hv hu
      go_wp2_with fail
      refine (great_any v u x i o l w1 hv1.1 hu1.1 hx1).mono ?_
      rintro e w2 ⟨rfl, rfl⟩
      rw [HG.out]
      go_wp2_with fail
      refine (new_any v u i o w1 hv1.1 hu1.1 hi4 ho4).mono ?_
      rintro e w2 ⟨b, S, rfl, ht, hb2⟩
      have hz1 := hb1.size
      have hz2 := hb2.size
      have hs : ∀ k, S k → ¬ Foot v i k ∧ ¬ Foot u o k := fun k hk => ⟨fun hf => by have := (ht.base_le k hk).1; have := foot_lt hv1.1 hf; omega, fun hf => by have := (ht.base_le k hk).1; have := foot_lt hu1.1 hf; omega⟩
      have hB := Both.start ht (hv1.below hb2) (hu1.below hb2) (hb1.trans (hb2.mono hz1)) hz1 (Nat.le_refl _) hs
      obtain ⟨a, cap, rfl⟩ := hx1.form
      obtain ⟨av, cv, rfl⟩ := hv1.1.form
      obtain ⟨au, cu, rfl⟩ := hu1.1.form
      clear hv1 hu1 hx1 hs ht hb1 hb2
      go_wp2_with fail
      go_loopw [44] (fun j wr => ∃ k : Nat, j = .int .i64 k ∧ DoesRel w.heap.size w wr w1.heap.size b w2.heap.size l k) (fun j _ => l.length - (intOf j).toNat)
      case atStart => exact ⟨0, rfl, Nat.zero_le _, i, o, hB⟩
      case round =>
        clear hB
        obtain ⟨k, rfl, hk, i, o, S, R, h1, h2, h3, h4, h5, h6, h7⟩ := hrel
        have hxr := hx.below h4
        by_cases hlt : k < l.length
        · obtain ⟨_, hfits, a0, c0, e0, hcell⟩ := id hxr
          simp only [Value.slice.injEq] at e0
          obtain ⟨rfl, -, rfl⟩ := e0
          obtain ⟨g, off, rfl, hgl, hc⟩ := hcell (by omega)
          obtain ⟨hc0, hc1⟩ := hc k hlt
          have hin := hfits _ (opAt_mem hlt)
          clear hc hcell hfits
          go_wp2_with fail
          have hA : Below wr.heap.size wr (wr.alloc (.cells #[.int .i64 (opAt l k).1, .int .i64 (opAt l k).2] 37)) := (Below.refl _ _).alloc (Nat.le_refl _) _
          have hzr := h4.size
          have hS := h1.base_le
          refine (do_any _ w1.heap.size b i o (opAt l k).1 (opAt l k).2 S (h1.alloc _) hin.2).mono ?_
          rintro e w3 ⟨rfl, hl⟩
          obtain ⟨⟨S3, R3, t3, r3, d3, b3, -⟩, hcl⟩ := half_of (h1.alloc _) (h2.below hA) h3 (h4.alloc hzr _) h5 h6 h7 hl
          have hp0 : w3.cell? ⟨wr.heap.size, 0, none⟩ = some (.int .i64 (opAt l k).1) := (hcl ⟨wr.heap.size, 0, none⟩ (by simp) (fun hk => by have := (hS _ hk).2; simp at this)).trans (by simp)
          have hp1 : w3.cell? ⟨wr.heap.size, 1, none⟩ = some (.int .i64 (opAt l k).2) := (hcl ⟨wr.heap.size, 1, none⟩ (by simp) (fun hk => by have := (hS _ hk).2; simp at this)).trans (by simp)
          clear hcl hl h1 h2 h3 hS hc0 hc1
          go_wp2_with fail
          refine (refdo_any w3 w2.heap.size i o (opAt l k).1 (opAt l k).2 R3 r3 hin.2).mono ?_
          rintro e w4 ⟨rfl, hr⟩
          have hB := both_of t3 r3 d3 b3 h5 h6 h7 hr
          clear hr t3 r3 d3 b3 hp0 hp1 hA hxr
          go_wp2
          go_roundw
          case rel => exact ⟨k + 1, by go_num, by omega, _, _, hB⟩
          case measure => simp [intOf]; omega
        · have d1 : decide (k < l.length) = false := by simpa using hlt
          obtain ⟨iv, ov, hh, hi, ho, hri, hro, hR⟩ := id h2
          have hc0 : wr.cell? ⟨w2.heap.size, 0, none⟩ = some iv := by simp [World.cell?, hh]
          have hc1 : wr.cell? ⟨w2.heap.size, 1, none⟩ = some ov := by simp [World.cell?, hh]
          obtain ⟨ai, ci, rfl⟩ := hi.form
          obtain ⟨ao, co, rfl⟩ := ho.form
          go_wp2_with fail
          go_still_tail 9, (by kernel_rfl)
          change wpList _ _ _ _ _ wr.drew
          go_wp2_with fail
          refine (same_any wr.drew _ b i o i o S _ _ (h1.below (below_drewN (Below.refl _ _) 1)) hi ho).mono ?_
          rintro e w3 ⟨rfl, hb3⟩
          go_wp2
          go_ret
          exact ⟨by simp, (below_drewN h4 1).trans (hb3.mono h4.size)⟩

set_option maxRecDepth 100000 in
theorem lifted_tapeDoes (os : Os) (started : os.Started) (H : Type) (enc : TypeId × Value → H) :
    ReturnsInHanded {} Try.checked os 4 .any (Rows.tapeDoesSpec.pre6 enc Try.prog Try.f4 Rows.tapeDoesRow.domain false) (Rows.tapeDoesSpec.post enc Try.prog Try.f4 false true false false) := by
  refine returnsInHanded_of_change_sized (C := Try.checked) own started (by kernel_rfl) Try.func4
    (ChangeSpec.witness6 (enc := enc) (C := Try.checked) false ⟨#[], #[.slice none 0 0, .slice none 0 0, .slice none 0 0], []⟩ 8 (by kernel_rfl) (by kernel_rfl) (by kernel_rfl) (by kernel_rfl)) ?_
  intro W base args ds gs before hval0 hW hcnd hsz0 _
  have hsz : (DataW.weightsEach Try.prog (Try.f4.params.toList ++ Rows.tapeDoesSpec.plain.varTypes Try.prog) (ds ++ gs)).all (· ≤ reachBytes) = true := hsz0
  have hval : ∀ (j : Nat) t v, Try.f4.params[j]? = some t → args[j]? = some v → Value.okWide Try.prog W .any base t v := hval0
  have hW' := hW
  obtain ⟨p, q, hA0, hV, rfl, hfz, hnd⟩ := hW
  have hA : DataW.TrodAll enc Try.prog W 0 (fun _ => true) true Try.f4.params.toList args.toList ds p := hA0
  rw [Try.params4] at hA hval hsz
  obtain ⟨v0, vs0, d0, ds0, p0, q0, hargs, rfl, rfl, h0, r0⟩ := trodAll_cons hA
  obtain ⟨v1, vs1, d1, ds1, p1, q1, rfl, rfl, rfl, h1, r1⟩ := trodAll_cons r0
  obtain ⟨v2, vs2, d2, ds2, p2, q2, rfl, rfl, rfl, h2, r2⟩ := trodAll_cons r1
  obtain ⟨rfl, rfl, rfl⟩ := trodAll_nil r2
  obtain rfl : args = #[v0, v1, v2] := by cases args; simp_all
  obtain ⟨rfl, rfl⟩ := trodVars_none hV
  have k0 := h0
  have lt0 : ∀ x ∈ p0, x.block < W.heap.size := by obtain ⟨m, hm⟩ := k0; exact DataW.trod_lt m _ _ _ hm
  obtain ⟨l0, i0⟩ := openRInts (hval 0 22 v0 rfl rfl) h0 (fun elems spare e => sized_slice hsz (j := 0) rfl (by rw [e]; rfl) Try.underlying22)
  have k1 := h1
  have lt1 : ∀ x ∈ p1, x.block < W.heap.size := by obtain ⟨m, hm⟩ := k1; exact DataW.trod_lt m _ _ _ hm
  obtain ⟨l1, i1⟩ := openRInts (hval 1 22 v1 rfl rfl) h1 (fun elems spare e => sized_slice hsz (j := 1) rfl (by rw [e]; rfl) Try.underlying22)
  have k2 := h2
  have lt2 : ∀ x ∈ p2, x.block < W.heap.size := by obtain ⟨m, hm⟩ := k2; exact DataW.trod_lt m _ _ _ hm
  obtain ⟨l2, i2⟩ := openOps (hval 2 32 v2 rfl rfl) h2 (fun elems spare e => sized_slice hsz (j := 2) rfl (by rw [e]; rfl) Try.underlying32)
  clear hA0 hval0
  refine (walk_tapeDoes W v0 l0 i0 v1 l1 i1 v2 l2 i2).mono fun e W' ⟨he, bel⟩ => ?_
  subst he
  exact ⟨_, rfl, _, _, _, [], _, [], hW', trodAll_mk1 (shut_bool Try.underlying4 _), (trodAll_cons_mk (Below.trod laidOut (by kernel_rfl) (of_decide_eq_true (by kernel_rfl)) k0 bel lt0) (trodAll_cons_mk (Below.trod laidOut (by kernel_rfl) (of_decide_eq_true (by kernel_rfl)) k1 bel lt1) (trodAll_cons_mk (Below.trod laidOut (by kernel_rfl) (of_decide_eq_true (by kernel_rfl)) k2 bel lt2) trodAll_mk0))), rfl, bel.frame _, fun h => by cases h⟩

/-- the given statement -/
theorem proved_tapeDoes : Rows.TapeDoesSaid :=
  OpenClaim.holds_of_wide 4 Try.f4 rfl rfl rfl rfl rfl rfl rfl ⟨rfl, rfl, rfl, rfl, rfl⟩ rfl rfl rfl rfl rfl (by kernel_rfl) Try.func4 (by kernel_rfl)
    (of_decide_eq_true (by kernel_rfl)) (by unfold Func.isWrapper; first | (rw [if_pos (by decide +kernel)]; kernel_rfl) | (rw [if_neg (by decide +kernel)]; exact ⟨rfl, rfl⟩))
    (fun os started H enc _ => lifted_tapeDoes os started H enc)
#print axioms proved_tapeDoes

end Go.Proofs.Ytpeiajmgkhajoab
