/- TapeApart: for every input, output and list of operations the law returns true: the input and the output do not interact. No condition. -/
import Derived.Test.YtpeiajmgkhajoabTapeI
import Derived.Test.YtpeiajmgkhajoabTapeP
namespace Go.Proofs.Ytpeiajmgkhajoab
open Go.ChangeShapes Go.WideShapes Go.ChangeAt Go.RowKit
set_option linter.unusedVariables false

/-- three tapes that share nothing; G: blocks that are none of theirs -/
def Three (B : Nat) (w wr : World) (b1 b2 b3 : Nat) (i1 o1 i2 o2 i3 o3 : List Int) (G : Nat → Prop) : Prop :=
  ∃ S1 S2 S3 base1 base2 base3, TapeAt wr base1 b1 48 i1 o1 S1 ∧ TapeAt wr base2 b2 48 i2 o2 S2 ∧ TapeAt wr base3 b3 48 i3 o3 S3 ∧
    (∀ k, S1 k → ¬ S2 k) ∧ (∀ k, S1 k → ¬ S3 k) ∧ (∀ k, S2 k → ¬ S3 k) ∧ B ≤ base1 ∧ B ≤ base2 ∧ B ≤ base3 ∧ Below B w wr ∧ ∀ k, G k → k < wr.heap.size ∧ ¬ S1 k ∧ ¬ S2 k ∧ ¬ S3 k

theorem Three.alloc {B : Nat} {w wr : World} {b1 b2 b3 : Nat} {i1 o1 i2 o2 i3 o3 : List Int} {G : Nat → Prop} (h : Three B w wr b1 b2 b3 i1 o1 i2 o2 i3 o3 G) (hw : B ≤ w.heap.size) (x : Obj) : Three B w (wr.alloc x) b1 b2 b3 i1 o1 i2 o2 i3 o3 (fun k => k = wr.heap.size) := by
  obtain ⟨S1, S2, S3, p1, p2, p3, t1, t2, t3, d1, d2, d3, e1, e2, e3, hB, hG⟩ := h
  have := hB.size
  refine ⟨S1, S2, S3, p1, p2, p3, t1.alloc _, t2.alloc _, t3.alloc _, d1, d2, d3, e1, e2, e3, hB.alloc (by omega) _, ?_⟩
  rintro k rfl
  exact ⟨by simp, fun hk => by have := (t1.base_le _ hk).2; omega, fun hk => by have := (t2.base_le _ hk).2; omega, fun hk => by have := (t3.base_le _ hk).2; omega⟩

theorem Three.swap12 {B : Nat} {w wr : World} {b1 b2 b3 : Nat} {i1 o1 i2 o2 i3 o3 : List Int} {G : Nat → Prop} (h : Three B w wr b1 b2 b3 i1 o1 i2 o2 i3 o3 G) : Three B w wr b2 b1 b3 i2 o2 i1 o1 i3 o3 G := by
  obtain ⟨S1, S2, S3, p1, p2, p3, t1, t2, t3, d1, d2, d3, e1, e2, e3, hB, hG⟩ := h
  exact ⟨S2, S1, S3, p2, p1, p3, t2, t1, t3, fun k a c => d1 k c a, d3, d2, e2, e1, e3, hB, fun k hk => ⟨(hG k hk).1, (hG k hk).2.2.1, (hG k hk).2.1, (hG k hk).2.2.2⟩⟩
theorem Three.swap13 {B : Nat} {w wr : World} {b1 b2 b3 : Nat} {i1 o1 i2 o2 i3 o3 : List Int} {G : Nat → Prop} (h : Three B w wr b1 b2 b3 i1 o1 i2 o2 i3 o3 G) : Three B w wr b3 b2 b1 i3 o3 i2 o2 i1 o1 G := by
  obtain ⟨S1, S2, S3, p1, p2, p3, t1, t2, t3, d1, d2, d3, e1, e2, e3, hB, hG⟩ := h
  exact ⟨S3, S2, S1, p3, p2, p1, t3, t2, t1, fun k a c => d3 k c a, fun k a c => d2 k c a, fun k a c => d1 k c a, e3, e2, e1, hB, fun k hk => ⟨(hG k hk).1, (hG k hk).2.2.2, (hG k hk).2.2.1, (hG k hk).2.1⟩⟩

/-- a step of the first: what it leaves; the protected blocks stay -/
theorem Three.go {B : Nat} {w wr : World} {b1 b2 b3 : Nat} {i1 o1 i2 o2 i3 o3 : List Int} {G : Nat → Prop} (h : Three B w wr b1 b2 b3 i1 o1 i2 o2 i3 o3 G) (k n : Int) (hn : In64 n) :
    Calls Try.prog 16 #[.pointer (some ⟨b1, 0, none⟩), .agg #[.int .i64 k, .int .i64 n]] wr fun e w' => e = .returned (.tuple #[.int .i64 (opV k i1 o1), .int .i64 (opE k i1 o1)]) ∧ 
      Three B w w' b1 b2 b3 (opI k n i1) (opO k n o1) i2 o2 i3 o3 G ∧ ∀ p : Addr, G p.block → w'.cell? p = wr.cell? p := by
  obtain ⟨S1, S2, S3, p1, p2, p3, t1, t2, t3, d1, d2, d3, e1, e2, e3, hB, hG⟩ := h
  refine (do_any wr p1 b1 i1 o1 k n S1 t1 hn).mono ?_
  rintro e w' ⟨rfl, hl⟩
  have hbl := hl.below (fun k hk => (t1.base_le k hk).1) t1.le
  obtain ⟨S', s1, k1, g1⟩ := hl
  refine ⟨rfl, ⟨S', S2, S3, p1, p2, p3, s1, t2.keeps k1 (fun k a c => d1 k c a), t3.keeps k1 (fun k a c => d2 k c a), fun k a c => ?_, fun k a c => ?_, d3, e1, e2, e3, hB.trans (hbl.mono e1), fun k hk => ⟨Nat.lt_of_lt_of_le (hG k hk).1 k1.size, fun a => ?_, (hG k hk).2.2⟩⟩, fun p hp => ?_⟩
  · rcases g1 k a with h | h
    · exact d1 k h c
    · have := (t2.base_le k c).2; omega
  · rcases g1 k a with h | h
    · exact d2 k h c
    · have := (t3.base_le k c).2; omega
  · rcases g1 k a with h | h
    · exact (hG k hk).2.1 h
    · have := (hG k hk).1; omega
  · have := hG p.block hp
    simp only [World.cell?, k1.block p.block this.1 this.2.1]

def ApartRel (B : Nat) (w wr : World) (b1 b2 b3 : Nat) (l : List (Int × Int)) (k : Nat) : Prop := k ≤ l.length ∧ ∃ i o, Three B w wr b1 b2 b3 i o i [] [] o (fun _ => False)

theorem Three.free {B : Nat} {w wr : World} {b1 b2 b3 : Nat} {i1 o1 i2 o2 i3 o3 : List Int} {G : Nat → Prop} (h : Three B w wr b1 b2 b3 i1 o1 i2 o2 i3 o3 G) : Three B w wr b1 b2 b3 i1 o1 i2 o2 i3 o3 (fun _ => False) := by
  obtain ⟨S1, S2, S3, p1, p2, p3, t1, t2, t3, d1, d2, d3, e1, e2, e3, hB, hG⟩ := h
  exact ⟨S1, S2, S3, p1, p2, p3, t1, t2, t3, d1, d2, d3, e1, e2, e3, hB, fun k hk => hk.elim⟩
theorem Three.bel {B : Nat} {w wr : World} {b1 b2 b3 : Nat} {i1 o1 i2 o2 i3 o3 : List Int} {G : Nat → Prop} (h : Three B w wr b1 b2 b3 i1 o1 i2 o2 i3 o3 G) : Below B w wr := by
  obtain ⟨S1, S2, S3, p1, p2, p3, t1, t2, t3, d1, d2, d3, e1, e2, e3, hB, hG⟩ := h; exact hB

theorem apart_in (k n : Int) (i o : List Int) (h : k = 1 ∨ k = 2) : opV k i [] = opV k i o ∧ opE k i [] = opE k i o ∧ opO k n ([] : List Int) = [] ∧ opO k n o = o := by
  rcases h with rfl | rfl <;> exact ⟨rfl, rfl, rfl, rfl⟩
theorem apart_out (k n : Int) (i o : List Int) (k1 : k ≠ 1) (k2 : k ≠ 2) : opV k [] o = opV k i o ∧ opE k [] o = opE k i o ∧ opI k n ([] : List Int) = [] ∧ opI k n i = i := by
  refine ⟨?_, ?_, ?_, ?_⟩ <;> simp [opV, opE, opI, k1, k2]

set_option maxHeartbeats 3200000 in
theorem walk_tapeApart (w : World) (v : Value) (i : List Int) (hv : RInts w v i) (u : Value) (o : List Int) (hu : RInts w u o) (x : Value) (l : List (Int × Int)) (hx : OpsAt w x l) :
    Calls Try.prog 7 #[v, u, x] w fun e w' => e = .returned (.bool true) ∧ Below w.heap.size w w' := by
  cases hgr : (decide (5000 < i.length) || (decide (5000 < o.length) || decide (60 < l.length))) with
  | true =>
    have HG := Lib.hid hgr
    clear hgr
    go_enter Try.func7, Try.ntmps7
    go_wp2_with fail
    refine (awake_any w).mono ?_
    rintro e w1 ⟨rfl, hb1⟩
    go_wp2_with fail
    refine (great_any v u x i o l w1 (hv.1.below hb1) (hu.1.below hb1) (hx.below hb1)).mono ?_
    rintro e w2 ⟨rfl, rfl⟩
    rw [HG.out]
    go_wp2
    go_ret
    exact ⟨rfl, hb1⟩
  | false =>
    have HG := Lib.hid hgr
    clear hgr
    by_cases hfull : 4096 < i.length ∨ 4096 < o.length
    · have HF := Lib.hid hfull
      go_enter Try.func7, Try.ntmps7
      go_wp2_with fail
      refine (awake_any w).mono ?_
      rintro e w1 ⟨rfl, hb1⟩
      have hv1 := hv.below hb1
      have hu1 := hu.below hb1
      have hx1 := hx.below hb1
      have hz1 := hb1.size
      go_wp2_with fail
      refine (great_any v u x i o l w1 hv1.1 hu1.1 hx1).mono ?_
      rintro e w2 ⟨rfl, rfl⟩
      rw [HG.out]
      go_wp2_with fail
      refine (new_full v u i o w1 hv1.1 hu1.1 HF.out).mono ?_
      rintro e w2 ⟨rfl, rfl⟩
      by_cases hi4 : 4096 < i.length
      · go_wp2_with fail
        refine (new_full v _ i [] w1 hv1.1 (IntsAt.nil _) (.inl hi4)).mono ?_
        rintro e w2 ⟨rfl, rfl⟩
        by_cases ho4 : 4096 < o.length
        · go_wp2_with fail
          refine (new_full _ u [] o w1 (IntsAt.nil _) hu1.1 (.inr ho4)).mono ?_
          rintro e w2 ⟨rfl, rfl⟩
          go_wp2
          go_ret
          exact ⟨rfl, hb1⟩
        · go_wp2_with fail
          refine (new_any _ u [] o w1 (IntsAt.nil _) hu1.1 (by simp) (by omega)).mono ?_
          rintro e w2 ⟨b, S, rfl, ht, hb2⟩
          go_wp2
          go_ret
          exact ⟨rfl, hb1.trans (hb2.mono hz1)⟩
      · have ho4 : 4096 < o.length := by omega
        go_wp2_with fail
        refine (new_any v _ i [] w1 hv1.1 (IntsAt.nil _) (by omega) (by simp)).mono ?_
        rintro e w2 ⟨b, S, rfl, ht, hb2⟩
        go_wp2_with fail
        refine (new_full _ u [] o w2 (IntsAt.nil _) (hu1.below hb2).1 (.inr ho4)).mono ?_
        rintro e w3 ⟨rfl, rfl⟩
        go_wp2
        go_ret
        exact ⟨rfl, hb1.trans (hb2.mono hz1)⟩
    · have hi4 : i.length ≤ 4096 := by omega
      have ho4 : o.length ≤ 4096 := by omega
      have hln := hx.1
      clear hfull
      go_enter Try.func7, Try.ntmps7
      go_wp2_with fail
      refine (awake_any w).mono ?_
      rintro e w1 ⟨rfl, hb1⟩
      have hv1 := hv.below hb1
      have hu1 := hu.below hb1
      have hx1 := hx.below hb1
      go_wp2_with fail
      refine (great_any v u x i o l w1 hv1.1 hu1.1 hx1).mono ?_
      rintro e w2 ⟨rfl, rfl⟩
      rw [HG.out]
      have hz1 := hb1.size
      go_wp2_with fail
      refine (new_any v u i o w1 hv1.1 hu1.1 hi4 ho4).mono ?_
      rintro e w2 ⟨b1, S1, rfl, t1, hb2⟩
      have hz2 := hb2.size
      go_wp2_with fail
      refine (new_any v _ i [] w2 (hv1.below hb2).1 (IntsAt.nil _) hi4 (by simp)).mono ?_
      rintro e w3 ⟨b2, S2, rfl, t2, hb3⟩
      have hz3 := hb3.size
      go_wp2_with fail
      refine (new_any _ u [] o w3 (IntsAt.nil _) ((hu1.below hb2).below hb3).1 (by simp) ho4).mono ?_
      rintro e w4 ⟨b3, S3, rfl, t3, hb4⟩
      have hz4 := hb4.size
      have hT : Three w.heap.size w w4 b1 b2 b3 i o i [] [] o (fun _ => False) := by
        refine ⟨S1, S2, S3, _, _, _, (t1.below hb3).below hb4, t2.below hb4, t3, fun k a c => ?_, fun k a c => ?_, fun k a c => ?_, hz1, by omega, by omega, ((hb1.trans (hb2.mono hz1)).trans (hb3.mono (by omega))).trans (hb4.mono (by omega)), fun k hk => hk.elim⟩
        · have := (t1.base_le k a).2; have := (t2.base_le k c).1; omega
        · have := (t1.base_le k a).2; have := (t3.base_le k c).1; omega
        · have := (t2.base_le k a).2; have := (t3.base_le k c).1; omega
      obtain ⟨a, cap, rfl⟩ := hx1.form
      clear hv1 hu1 hx1 t1 t2 t3 hb1 hb2 hb3 hb4 hz1 hz2 hz3 hz4
      go_wp2_with fail
      go_loopw [54] (fun j wr => ∃ k : Nat, j = .int .i64 k ∧ ApartRel w.heap.size w wr b1 b2 b3 l k) (fun j _ => l.length - (intOf j).toNat)
      case atStart => exact ⟨0, rfl, Nat.zero_le _, i, o, hT⟩
      case round =>
        clear hT
        obtain ⟨k, rfl, hk, i, o, hT⟩ := hrel
        have hxr := hx.below hT.bel
        by_cases hlt : k < l.length
        · obtain ⟨_, hfits, a0, c0, e0, hcell⟩ := id hxr
          simp only [Value.slice.injEq] at e0
          obtain ⟨rfl, -, rfl⟩ := e0
          obtain ⟨g, off, rfl, hgl, hc⟩ := hcell (by omega)
          obtain ⟨hc0, hc1⟩ := hc k hlt
          have hin := hfits _ (opAt_mem hlt)
          clear hc hcell hfits
          obtain ⟨⟨kk, nn⟩, hop⟩ : ∃ q : Int × Int, q = opAt l k := ⟨_, rfl⟩
          rw [← hop] at hc0 hc1 hin
          simp only at hc0 hc1 hin
          have hn64 := hin.2
          clear hop hin
          have hTA := hT.alloc (Nat.le_refl _) (.cells #[.int .i64 kk, .int .i64 nn] 37)
          by_cases hk12 : kk = 1 ∨ kk = 2
          · obtain ⟨q1, q2, q3, q4⟩ := apart_in kk nn i o hk12
            have Q1 := Lib.hid q1
            have Q2 := Lib.hid q2
            have Q3 := Lib.hid q3
            have Q4 := Lib.hid q4
            clear q1 q2 q3 q4
            rcases hk12 with rfl | rfl
            all_goals
              go_wp2_with fail
              refine (hTA.go _ nn hn64).mono ?_
              rintro e w5 ⟨rfl, hT5, hcl⟩
              have hp0 := hcl ⟨wr.heap.size, 0, none⟩ rfl
              have hp1 := hcl ⟨wr.heap.size, 1, none⟩ rfl
              rw [World.cell?_alloc_at _ _ _ _ rfl] at hp0 hp1
              simp at hp0 hp1
              clear hcl hTA hT hc0 hc1
              go_wp2_with fail
              refine (hT5.swap12.go _ nn hn64).mono ?_
              rintro e w6 ⟨rfl, hT6, _⟩
              rw [Q1.out, Q2.out]
              have hT7 := hT6.swap12.free
              rw [Q3.out, Q4.out] at hT7
              clear hT6 hT5 hp0 hp1
              go_wp2
              go_roundw
              case rel => exact ⟨k + 1, by go_num, by omega, _, _, hT7⟩
              case measure => simp [intOf]; omega
          · have c1 : (kk == 1) = false := by simp; omega
            have c2 : (kk == 2) = false := by simp; omega
            obtain ⟨q1, q2, q3, q4⟩ := apart_out kk nn i o (by omega) (by omega)
            have Q1 := Lib.hid q1
            have Q2 := Lib.hid q2
            have Q3 := Lib.hid q3
            have Q4 := Lib.hid q4
            clear q1 q2 q3 q4 hk12
            go_wp2_with fail
            refine (hTA.go _ nn hn64).mono ?_
            rintro e w5 ⟨rfl, hT5, hcl⟩
            have hp0 := hcl ⟨wr.heap.size, 0, none⟩ rfl
            have hp1 := hcl ⟨wr.heap.size, 1, none⟩ rfl
            rw [World.cell?_alloc_at _ _ _ _ rfl] at hp0 hp1
            simp at hp0 hp1
            clear hcl hTA hT hc0 hc1
            go_wp2_with fail
            refine (hT5.swap13.go _ nn hn64).mono ?_
            rintro e w6 ⟨rfl, hT6, _⟩
            rw [Q1.out, Q2.out]
            have hT7 := hT6.swap13.free
            rw [Q3.out, Q4.out] at hT7
            clear hT6 hT5 hp0 hp1
            go_wp2
            go_roundw
            case rel => exact ⟨k + 1, by go_num, by omega, _, _, hT7⟩
            case measure => simp [intOf]; omega
        · have d1 : decide (k < l.length) = false := by simpa using hlt
          obtain ⟨S1, S2, S3, p1, p2, p3, t1, t2, t3, -, -, -, -, -, -, hB, -⟩ := hT
          have hz := hB.size
          clear hxr
          go_wp2_with fail
          refine (in_any _ p2 b2 _ _ S2 t2).mono ?_
          rintro e w5 ⟨v5, rfl, h5, hb5⟩
          have hz5 := hb5.size
          go_wp2_with fail
          refine (out_any _ p3 b3 _ _ S3 (t3.below hb5)).mono ?_
          rintro e w6 ⟨v6, rfl, h6, hb6⟩
          have hz6 := hb6.size
          have hb56 := hb5.trans (hb6.mono hz5)
          go_wp2_with fail
          refine (same_any w6 _ b1 _ _ i o S1 v5 v6 (t1.below hb56) (h5.ints.below hb6) h6.ints).mono ?_
          rintro e w7 ⟨rfl, hb7⟩
          have hz7 := hb7.size
          have hd : (decide (i = i) && decide (o = o)) = true := by simp
          rw [hd]
          have hb7' := hb56.trans (hb7.mono (by omega))
          clear h5 h6 hb5 hb6 hb7
          go_wp2_with fail
          refine (out_any _ p2 b2 _ _ S2 (t2.below hb7')).mono ?_
          rintro e w8 ⟨v8, rfl, h8, hb8⟩
          have hz8 := hb8.size
          obtain ⟨a8, c8, rfl⟩ := h8.form
          have hb8' := hb7'.trans (hb8.mono (by omega))
          simp only [List.length_nil]
          clear h8 hb8
          go_wp2_with fail
          refine (in_any _ p3 b3 _ _ S3 (t3.below hb8')).mono ?_
          rintro e w9 ⟨v9, rfl, h9, hb9⟩
          obtain ⟨a9, c9, rfl⟩ := h9.form
          simp only [List.length_nil]
          clear h9
          go_wp2
          go_ret
          exact ⟨rfl, (hB.trans (hb8'.mono hz)).trans (hb9.mono (by omega))⟩

set_option maxRecDepth 100000 in
theorem lifted_tapeApart (os : Os) (started : os.Started) (H : Type) (enc : TypeId × Value → H) :
    ReturnsInHanded {} Try.checked os 7 .any (Rows.tapeApartSpec.pre6 enc Try.prog Try.f7 Rows.tapeApartRow.domain false) (Rows.tapeApartSpec.post enc Try.prog Try.f7 false true false false) := by
  refine returnsInHanded_of_change_sized (C := Try.checked) own started (by kernel_rfl) Try.func7
    (ChangeSpec.witness6 (enc := enc) (C := Try.checked) false ⟨#[], #[.slice none 0 0, .slice none 0 0, .slice none 0 0], []⟩ 8 (by kernel_rfl) (by kernel_rfl) (by kernel_rfl) (by kernel_rfl)) ?_
  intro W base args ds gs before hval0 hW hcnd hsz0 _
  have hsz : (DataW.weightsEach Try.prog (Try.f7.params.toList ++ Rows.tapeApartSpec.plain.varTypes Try.prog) (ds ++ gs)).all (· ≤ reachBytes) = true := hsz0
  have hval : ∀ (j : Nat) t v, Try.f7.params[j]? = some t → args[j]? = some v → Value.okWide Try.prog W .any base t v := hval0
  have hW' := hW
  obtain ⟨p, q, hA0, hV, rfl, hfz, hnd⟩ := hW
  have hA : DataW.TrodAll enc Try.prog W 0 (fun _ => true) true Try.f7.params.toList args.toList ds p := hA0
  rw [Try.params7] at hA hval hsz
  obtain ⟨v0, vs0, d0, ds0, p0, q0, hargs, rfl, rfl, h0, r0⟩ := trodAll_cons hA
  obtain ⟨v1, vs1, d1, ds1, p1, q1, rfl, rfl, rfl, h1, r1⟩ := trodAll_cons r0
  obtain ⟨v2, vs2, d2, ds2, p2, q2, rfl, rfl, rfl, h2, r2⟩ := trodAll_cons r1
  obtain ⟨rfl, rfl, rfl⟩ := trodAll_nil r2
  obtain rfl : args = #[v0, v1, v2] := by cases args; simp_all
  obtain ⟨rfl, rfl⟩ := trodVars_none hV
  have k0 := h0
  have lt0 : ∀ x ∈ p0, x.block < W.heap.size := by obtain ⟨m, hm⟩ := k0; exact DataW.trod_lt m _ _ _ hm
  obtain ⟨l0, i0⟩ := openRInts (hval 0 22 v0 rfl rfl) h0 (fun elems spare e => sized_slice hsz (j := 0) rfl (by rw [e]; rfl) Try.underlying22)
  have k1 := h1
  have lt1 : ∀ x ∈ p1, x.block < W.heap.size := by obtain ⟨m, hm⟩ := k1; exact DataW.trod_lt m _ _ _ hm
  obtain ⟨l1, i1⟩ := openRInts (hval 1 22 v1 rfl rfl) h1 (fun elems spare e => sized_slice hsz (j := 1) rfl (by rw [e]; rfl) Try.underlying22)
  have k2 := h2
  have lt2 : ∀ x ∈ p2, x.block < W.heap.size := by obtain ⟨m, hm⟩ := k2; exact DataW.trod_lt m _ _ _ hm
  obtain ⟨l2, i2⟩ := openOps (hval 2 32 v2 rfl rfl) h2 (fun elems spare e => sized_slice hsz (j := 2) rfl (by rw [e]; rfl) Try.underlying32)
  clear hA0 hval0
  refine (walk_tapeApart W v0 l0 i0 v1 l1 i1 v2 l2 i2).mono fun e W' ⟨he, bel⟩ => ?_
  subst he
  exact ⟨_, rfl, _, _, _, [], _, [], hW', trodAll_mk1 (shut_bool Try.underlying4 _), (trodAll_cons_mk (Below.trod laidOut (by kernel_rfl) (of_decide_eq_true (by kernel_rfl)) k0 bel lt0) (trodAll_cons_mk (Below.trod laidOut (by kernel_rfl) (of_decide_eq_true (by kernel_rfl)) k1 bel lt1) (trodAll_cons_mk (Below.trod laidOut (by kernel_rfl) (of_decide_eq_true (by kernel_rfl)) k2 bel lt2) trodAll_mk0))), rfl, bel.frame _, fun h => by cases h⟩

/-- the given statement -/
theorem proved_tapeApart : Rows.TapeApartSaid :=
  OpenClaim.holds_of_wide 7 Try.f7 rfl rfl rfl rfl rfl rfl rfl ⟨rfl, rfl, rfl, rfl, rfl⟩ rfl rfl rfl rfl rfl (by kernel_rfl) Try.func7 (by kernel_rfl)
    (of_decide_eq_true (by kernel_rfl)) (by unfold Func.isWrapper; first | (rw [if_pos (by decide +kernel)]; kernel_rfl) | (rw [if_neg (by decide +kernel)]; exact ⟨rfl, rfl⟩))
    (fun os started H enc _ => lifted_tapeApart os started H enc)
#print axioms proved_tapeApart

end Go.Proofs.Ytpeiajmgkhajoab
