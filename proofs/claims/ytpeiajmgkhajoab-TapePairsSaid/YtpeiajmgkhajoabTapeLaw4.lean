/- TapePairs: for every input, output and operation the law returns true: an operation and then its inverse change nothing. No condition. -/
import Derived.Test.YtpeiajmgkhajoabTapeI
import Derived.Test.YtpeiajmgkhajoabTapeP
namespace Go.Proofs.Ytpeiajmgkhajoab
open Go.ChangeShapes Go.WideShapes Go.ChangeAt Go.RowKit
set_option linter.unusedVariables false

theorem left_keeps {B : Nat} {w wr w' : World} {base b : Nat} {i o i1 o1 : List Int} {S : Nat → Prop} (h1 : TapeAt wr base b 48 i o S) (h4 : Below B w wr) (h5 : B ≤ base)
    (hl : Left wr w' base b 48 i1 o1 S) : ∃ S', TapeAt w' base b 48 i1 o1 S' ∧ Below B w w' ∧ Grew wr S S' ∧ ∀ p, p.block < wr.heap.size → ¬ S p.block → w'.cell? p = wr.cell? p := by
  have hbl := hl.below (fun k hk => (h1.base_le k hk).1) h1.le
  obtain ⟨S', t1, k1, g1⟩ := hl
  exact ⟨S', t1, h4.trans (hbl.mono h5), g1, fun p hp hn => by simp only [World.cell?, k1.block p.block hp hn]⟩

set_option maxHeartbeats 3200000 in
theorem walk_tapePairs (w : World) (v : Value) (i : List Int) (hv : RInts w v i) (u : Value) (o : List Int) (hu : RInts w u o) (x : Value) (q : Int × Int) (hx : OpIs w x q) :
    Calls Try.prog 6 #[v, u, x] w fun e w' => e = .returned (.bool true) ∧ Below w.heap.size w w' := by
  obtain ⟨k, n⟩ := q
  obtain ⟨rfl, hk64, hn64⟩ := hx
  simp only at hk64 hn64
  have hA : Below w.heap.size w (w.alloc (.cells #[.int .i64 k, .int .i64 n] 37)) := (Below.refl _ _).alloc (Nat.le_refl _) _
  have hvA := hv.below hA
  have huA := hu.below hA
  cases hgr : (decide (5000 < i.length) || (decide (5000 < o.length) || decide (60 < ([] : List (Int × Int)).length))) with
  | true =>
    have HG := Lib.hid hgr
    clear hgr
    go_enter Try.func6, Try.ntmps6
    go_wp2_with fail
    refine (awake_any _).mono ?_
    rintro e w1 ⟨rfl, hb1⟩
    go_wp2_with fail
    refine (great_any v u _ i o [] w1 (hvA.1.below hb1) (huA.1.below hb1) (OpsAt.nil _)).mono ?_
    rintro e w2 ⟨rfl, rfl⟩
    rw [HG.out]
    go_wp2
    go_ret
    exact ⟨rfl, hA.trans (hb1.mono (by simp))⟩
  | false =>
    have HG := Lib.hid hgr
    clear hgr
    by_cases hfull : 4096 < i.length ∨ 4096 < o.length
    · have HF := Lib.hid hfull
      clear hfull
      go_enter Try.func6, Try.ntmps6
      go_wp2_with fail
      refine (awake_any _).mono ?_
      rintro e w1 ⟨rfl, hb1⟩
      have hv1 := hvA.below hb1
      have hu1 := huA.below hb1
      clear hvA huA
      go_wp2_with fail
      refine (great_any v u _ i o [] w1 hv1.1 hu1.1 (OpsAt.nil _)).mono ?_
      rintro e w2 ⟨rfl, rfl⟩
      rw [HG.out]
      go_wp2_with fail
      refine (new_full v u i o w1 hv1.1 hu1.1 HF.out).mono ?_
      rintro e w2 ⟨rfl, rfl⟩
      go_wp2
      go_ret
      exact ⟨rfl, hA.trans (hb1.mono (by simp))⟩
    · have hi4 : i.length ≤ 4096 := by omega
      have ho4 : o.length ≤ 4096 := by omega
      have hund := Lib.hid (op_undo k n i o hi4 ho4)
      have hfail := Lib.hid (op_fail k n i o)
      clear hfull
      go_enter Try.func6, Try.ntmps6
      go_wp2_with fail
      refine (awake_any _).mono ?_
      rintro e w1 ⟨rfl, hb1⟩
      have hv1 := hvA.below hb1
      have hu1 := huA.below hb1
      have hq0 : w1.cell? ⟨w.heap.size, 0, none⟩ = some (.int .i64 k) := (hb1.cell (p := ⟨w.heap.size, 0, none⟩) (by simp)).trans (by simp)
      have hq1 : w1.cell? ⟨w.heap.size, 1, none⟩ = some (.int .i64 n) := (hb1.cell (p := ⟨w.heap.size, 1, none⟩) (by simp)).trans (by simp)
      have hs1 := hb1.size
      have hb1' : Below w.heap.size w w1 := hA.trans (hb1.mono (by simp))
      simp at hs1
      clear hvA huA hA hb1
      go_wp2_with fail
      refine (great_any v u _ i o [] w1 hv1.1 hu1.1 (OpsAt.nil _)).mono ?_
      rintro e w2 ⟨rfl, rfl⟩
      rw [HG.out]
      go_wp2_with fail
      refine (new_any v u i o w1 hv1.1 hu1.1 hi4 ho4).mono ?_
      rintro e w2 ⟨b, S, rfl, ht, hb2⟩
      have hs2 := hb2.size
      have hv2 := hv1.below hb2
      have hu2 := hu1.below hb2
      have hr0 : w2.cell? ⟨w.heap.size, 0, none⟩ = some (.int .i64 k) := (hb2.cell (p := ⟨w.heap.size, 0, none⟩) (by simp; omega)).trans hq0
      have hr1 : w2.cell? ⟨w.heap.size, 1, none⟩ = some (.int .i64 n) := (hb2.cell (p := ⟨w.heap.size, 1, none⟩) (by simp; omega)).trans hq1
      have hB2 : Below w.heap.size w w2 := hb1'.trans (hb2.mono (by omega))
      have hS := ht.base_le
      clear hq0 hq1
      go_wp2_with fail
      refine (do_any w2 w1.heap.size b i o k n S ht hn64).mono ?_
      rintro e w3 ⟨rfl, hl⟩
      have hb3 := hl.below (fun k hk => (hS k hk).1) ht.le
      obtain ⟨S3, t3, hB3, g3, hcl⟩ := left_keeps ht hB2 (by omega) hl
      have hv3 : RInts w3 v i := ⟨hv1.1.below (hb2.trans hb3), hv1.2⟩
      have hu3 : RInts w3 u o := ⟨hu1.1.below (hb2.trans hb3), hu1.2⟩
      have hp0 : w3.cell? ⟨w.heap.size, 0, none⟩ = some (.int .i64 k) := (hcl ⟨w.heap.size, 0, none⟩ (by simp; omega) (fun hk => by have := (hS _ hk).1; simp at this; omega)).trans hr0
      have hp1 : w3.cell? ⟨w.heap.size, 1, none⟩ = some (.int .i64 n) := (hcl ⟨w.heap.size, 1, none⟩ (by simp; omega) (fun hk => by have := (hS _ hk).1; simp at this; omega)).trans hr1
      have hfit := ht.fits
      have hz3 := hB3.size
      have hS3 := t3.base_le
      have hs3 := hb3.size
      clear hcl hr0 hr1 hl hv1 hu1 ht hv2 hu2 hS g3 hb2
      by_cases hok : opE k i o = 0
      · obtain ⟨u1, u2, u3, u4⟩ := hund.out hok
        have d0 : (opE k i o != 0) = false := by simp [hok]
        have HI := Lib.hid (fits_inv (k := k) hfit.1 hfit.2)
        have U1 := Lib.hid u1
        have U2 := Lib.hid u2
        have U3 := Lib.hid u3
        have U4 := Lib.hid u4
        have HOK := Lib.hid hok
        clear hok u1 u2 u3 u4
        go_wp2_with fail
        refine (inverse_any w3 k n (opV k i o)).mono ?_
        rintro e w4 ⟨rfl, hb4⟩
        have hs4 := hb4.size
        have t4 := t3.below hb4
        have hB4 : Below w.heap.size w w4 := hB3.trans (hb4.mono hz3)
        have hv4 := hv3.below hb4
        have hu4 := hu3.below hb4
        have hq0 : w4.cell? ⟨w.heap.size, 0, none⟩ = some (.int .i64 k) := (hb4.cell (p := ⟨w.heap.size, 0, none⟩) (by simp; omega)).trans hp0
        have hq1 : w4.cell? ⟨w.heap.size, 1, none⟩ = some (.int .i64 n) := (hb4.cell (p := ⟨w.heap.size, 1, none⟩) (by simp; omega)).trans hp1
        have hS4 := t4.base_le
        clear hp0 hp1 hv3 hu3 t3 hS3
        go_wp2_with fail
        refine (do_any w4 w1.heap.size b _ _ (invK k) (invN k (opV k i o)) S3 t4 HI.out).mono ?_
        rintro e w5 ⟨rfl, hl⟩
        have hb5 := hl.below (fun k hk => (hS4 k hk).1) t4.le
        obtain ⟨S5, t5, hB5, g5, hcl⟩ := left_keeps t4 hB4 (by omega) hl
        have hv5 := hv.below hB5
        have hu5 := hu.below hB5
        have hp0 : w5.cell? ⟨w.heap.size, 0, none⟩ = some (.int .i64 k) := (hcl ⟨w.heap.size, 0, none⟩ (by simp; omega) (fun hk => by have := (hS4 _ hk).1; simp at this; omega)).trans hq0
        have hp1 : w5.cell? ⟨w.heap.size, 1, none⟩ = some (.int .i64 n) := (hcl ⟨w.heap.size, 1, none⟩ (by simp; omega) (fun hk => by have := (hS4 _ hk).1; simp at this; omega)).trans hq1
        have t6 : TapeAt w5 w1.heap.size b 48 i o S5 := by have h := t5; rw [U2.out, U3.out] at h; exact h
        have e1 : (opE (invK k) (opI k n i) (opO k n o) == 0) = true := by simp [U1.out]
        have hz5 := hB5.size
        clear hcl hl hv4 hu4 t4 t5 hS4 hb5 hB4 hq0 hq1 hB3
        by_cases k2 : k = 2
        · have c1 : (k == 2) = true := by simpa using k2
          have c2 : (opV (invK k) (opI k n i) (opO k n o) == n) = true := by rw [U4.out, if_pos k2]; simp
          clear k2
          go_wp2_with fail
          refine (same_any w5 _ b i o i o S5 v u t6 hv5.1 hu5.1).mono ?_
          rintro e w6 ⟨rfl, hb6⟩
          go_wp2
          go_ret
          exact ⟨by simp, hB5.trans (hb6.mono hz5)⟩
        · have c1 : (k == 2) = false := by simpa using k2
          have c1' : (k != 2) = true := by simpa using k2
          by_cases k3 : k = 3
          · have c3 : (k == 3) = true := by simpa using k3
            have c2 : (opV (invK k) (opI k n i) (opO k n o) == n) = true := by rw [U4.out, if_neg k2, if_pos k3]; simp
            clear k2 k3
            go_wp2_with fail
            refine (same_any w5 _ b i o i o S5 v u t6 hv5.1 hu5.1).mono ?_
            rintro e w6 ⟨rfl, hb6⟩
            go_wp2
            go_ret
            exact ⟨by simp, hB5.trans (hb6.mono hz5)⟩
          · have c3 : (k == 3) = false := by simpa using k3
            have c3' : (k != 3) = true := by simpa using k3
            have c2 : (opV (invK k) (opI k n i) (opO k n o) == 0) = true := by rw [U4.out, if_neg k2, if_neg k3]; simp
            clear k2 k3
            go_wp2_with fail
            refine (same_any w5 _ b i o i o S5 v u t6 hv5.1 hu5.1).mono ?_
            rintro e w6 ⟨rfl, hb6⟩
            go_wp2
            go_ret
            exact ⟨by simp, hB5.trans (hb6.mono hz5)⟩
      · have hz := (hfail.out hok)
        have d0 : (opE k i o != 0) = true := by simp [hok]
        have d1 : (opV k i o == 0) = true := by simp [hz.1]
        have t3' : TapeAt w3 w1.heap.size b 48 i o S3 := by have h := t3; rw [hz.2.1, hz.2.2] at h; exact h
        clear hz
        go_wp2_with fail
        refine (same_any w3 _ b i o i o S3 v u t3' hv3.1 hu3.1).mono ?_
        rintro e w4 ⟨rfl, hb4⟩
        go_wp2
        go_ret
        exact ⟨by simp, hB3.trans (hb4.mono hz3)⟩

set_option maxRecDepth 100000 in
theorem lifted_tapePairs (os : Os) (started : os.Started) (H : Type) (enc : TypeId × Value → H) :
    ReturnsInHanded {} Try.checked os 6 .any (Rows.tapePairsSpec.pre6 enc Try.prog Try.f6 Rows.tapePairsRow.domain false) (Rows.tapePairsSpec.post enc Try.prog Try.f6 false true false false) := by
  refine returnsInHanded_of_change_sized (C := Try.checked) own started (by kernel_rfl) Try.func6
    (ChangeSpec.witness6 (enc := enc) (C := Try.checked) false ⟨#[], #[.slice none 0 0, .slice none 0 0, .agg #[.int .i64 0, .int .i64 0]], []⟩ 8 (by kernel_rfl) (by kernel_rfl) (by kernel_rfl) (by kernel_rfl)) ?_
  intro W base args ds gs before hval0 hW hcnd hsz0 _
  have hsz : (DataW.weightsEach Try.prog (Try.f6.params.toList ++ Rows.tapePairsSpec.plain.varTypes Try.prog) (ds ++ gs)).all (· ≤ reachBytes) = true := hsz0
  have hval : ∀ (j : Nat) t v, Try.f6.params[j]? = some t → args[j]? = some v → Value.okWide Try.prog W .any base t v := hval0
  have hW' := hW
  obtain ⟨p, q, hA0, hV, rfl, hfz, hnd⟩ := hW
  have hA : DataW.TrodAll enc Try.prog W 0 (fun _ => true) true Try.f6.params.toList args.toList ds p := hA0
  rw [Try.params6] at hA hval hsz
  obtain ⟨v0, vs0, d0, ds0, p0, q0, hargs, rfl, rfl, h0, r0⟩ := trodAll_cons hA
  obtain ⟨v1, vs1, d1, ds1, p1, q1, rfl, rfl, rfl, h1, r1⟩ := trodAll_cons r0
  obtain ⟨v2, vs2, d2, ds2, p2, q2, rfl, rfl, rfl, h2, r2⟩ := trodAll_cons r1
  obtain ⟨rfl, rfl, rfl⟩ := trodAll_nil r2
  obtain rfl : args = #[v0, v1, v2] := by cases args; simp_all
  obtain ⟨rfl, rfl⟩ := trodVars_none hV
  have k0 := h0
  have lt0 : ∀ x ∈ p0, x.block < W.heap.size := by obtain ⟨m, hm⟩ := k0; exact DataW.trod_lt m _ _ _ hm
  obtain ⟨l0, i0⟩ := openRInts (hval 0 22 v0 rfl rfl) h0 (fun elems spare e => sized_slice hsz (j := 0) rfl (by rw [e]; rfl) Try.underlying22)
  have k1 := h1
  have lt1 : ∀ x ∈ p1, x.block < W.heap.size := by obtain ⟨m, hm⟩ := k1; exact DataW.trod_lt m _ _ _ hm
  obtain ⟨l1, i1⟩ := openRInts (hval 1 22 v1 rfl rfl) h1 (fun elems spare e => sized_slice hsz (j := 1) rfl (by rw [e]; rfl) Try.underlying22)
  have k2 := h2
  have lt2 : ∀ x ∈ p2, x.block < W.heap.size := by obtain ⟨m, hm⟩ := k2; exact DataW.trod_lt m _ _ _ hm
  obtain ⟨l2, i2⟩ := openOp (hval 2 37 v2 rfl rfl) h2
  clear hA0 hval0
  refine (walk_tapePairs W v0 l0 i0 v1 l1 i1 v2 l2 i2).mono fun e W' ⟨he, bel⟩ => ?_
  subst he
  exact ⟨_, rfl, _, _, _, [], _, [], hW', trodAll_mk1 (shut_bool Try.underlying4 _), (trodAll_cons_mk (Below.trod laidOut (by kernel_rfl) (of_decide_eq_true (by kernel_rfl)) k0 bel lt0) (trodAll_cons_mk (Below.trod laidOut (by kernel_rfl) (of_decide_eq_true (by kernel_rfl)) k1 bel lt1) (trodAll_cons_mk (Below.trod laidOut (by kernel_rfl) (of_decide_eq_true (by kernel_rfl)) k2 bel lt2) trodAll_mk0))), rfl, bel.frame _, fun h => by cases h⟩

/-- the given statement -/
theorem proved_tapePairs : Rows.TapePairsSaid :=
  OpenClaim.holds_of_wide 6 Try.f6 rfl rfl rfl rfl rfl rfl rfl ⟨rfl, rfl, rfl, rfl, rfl⟩ rfl rfl rfl rfl rfl (by kernel_rfl) Try.func6 (by kernel_rfl)
    (of_decide_eq_true (by kernel_rfl)) (by unfold Func.isWrapper; first | (rw [if_pos (by decide +kernel)]; kernel_rfl) | (rw [if_neg (by decide +kernel)]; exact ⟨rfl, rfl⟩))
    (fun os started H enc _ => lifted_tapePairs os started H enc)
#print axioms proved_tapePairs

end Go.Proofs.Ytpeiajmgkhajoab
