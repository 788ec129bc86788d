/- TapeNew: for every input and output the law returns true: New agrees with the specification, and the tape is independent of the slices that were passed and returned. No condition. -/
import Derived.Test.YtpeiajmgkhajoabTapeI
import Derived.Test.YtpeiajmgkhajoabTapeP
namespace Go.Proofs.Ytpeiajmgkhajoab
open Go.ChangeShapes Go.WideShapes Go.ChangeAt Go.RowKit
set_option linter.unusedVariables false

theorem wrap64_range (n : Int) : -9223372036854775808 ≤ wrap64 n ∧ wrap64 n ≤ 9223372036854775807 := by unfold wrap64; omega

/-- a store into a slice of the call's own that is no part of a tape -/
theorem TapeAt.store {w : World} {base b t g j : Nat} {i o : List Int} {S : Nat → Prop} {x : Value} (h : TapeAt w base b t i o S) (hne : ∀ k, S k → k ≠ g) : TapeAt (w.setCell ⟨g, j, none⟩ x) base b t i o S :=
  h.keeps (T := fun k => k = g) ⟨rfl, rfl, rfl, by simp [World.setCell], fun k hk hs => heap_setCell_other w ⟨g, j, none⟩ k x (fun e => hs e)⟩ hne

theorem below_store {B : Nat} {w wr : World} {g j : Nat} {x : Value} (h : Below B w wr) (hg : B ≤ g) : Below B w (wr.setCell ⟨g, j, none⟩ x) := h.setCell hg _

/-- a tape and two slices of the call's own -/
def NewRel (B : Nat) (w wr : World) (base b : Nat) (i o : List Int) (va vb : Value) : Prop :=
  ∃ S la lb, TapeAt wr base b 48 i o S ∧ la.length = i.length ∧ lb.length = o.length ∧ Own wr B 3 va la ∧ Own wr B 3 vb lb ∧ Sep va vb ∧ (∀ k, va.ownBlock = some k → k < base) ∧ (∀ k, vb.ownBlock = some k → k < base) ∧ Below B w wr

theorem NewRel.swap {B : Nat} {w wr : World} {base b g n c j : Nat} {i o la lb : List Int} {vb : Value} {S : Nat → Prop} {x : Int} (h1 : TapeAt wr base b 48 i o S) (h2 : la.length = i.length) (h3 : lb.length = o.length)
    (h4 : Own wr B 3 (.slice (some ⟨g, 0, none⟩) n c) la) (h5 : Own wr B 3 vb lb) (h6 : Sep (.slice (some ⟨g, 0, none⟩) n c) vb) (h7 : ∀ k, (Value.slice (some ⟨g, 0, none⟩) n c).ownBlock = some k → k < base) (h8 : ∀ k, vb.ownBlock = some k → k < base) (h9 : Below B w wr) (hx : In64 x) :
    NewRel B w (wr.setCell ⟨g, j, none⟩ (.int .i64 x)) base b i o (.slice (some ⟨g, 0, none⟩) n c) vb := by
  obtain ⟨k1, k2⟩ := own_set h4 j x hx
  refine ⟨S, _, lb, h1.store (fun k hk e => ?_), by simpa using h2, h3, k1, h5.grown (v := .slice (some ⟨g, 0, none⟩) n c) k2 h6.symm, h6, h7, h8, below_store h9 (h4.base_le g rfl)⟩
  have := (h1.base_le k hk).1; have := h7 g rfl; omega

theorem NewRel.swap' {B : Nat} {w wr : World} {base b g n c j : Nat} {i o la lb : List Int} {va : Value} {S : Nat → Prop} {x : Int} (h1 : TapeAt wr base b 48 i o S) (h2 : la.length = i.length) (h3 : lb.length = o.length)
    (h4 : Own wr B 3 va la) (h5 : Own wr B 3 (.slice (some ⟨g, 0, none⟩) n c) lb) (h6 : Sep va (.slice (some ⟨g, 0, none⟩) n c)) (h7 : ∀ k, va.ownBlock = some k → k < base) (h8 : ∀ k, (Value.slice (some ⟨g, 0, none⟩) n c).ownBlock = some k → k < base) (h9 : Below B w wr) (hx : In64 x) :
    NewRel B w (wr.setCell ⟨g, j, none⟩ (.int .i64 x)) base b i o va (.slice (some ⟨g, 0, none⟩) n c) := by
  obtain ⟨k1, k2⟩ := own_set h5 j x hx
  refine ⟨S, la, _, h1.store (fun k hk e => ?_), h2, by simpa using h3, h4.grown (v := .slice (some ⟨g, 0, none⟩) n c) k2 h6, k1, h6, h7, h8, below_store h9 (h5.base_le g rfl)⟩
  have := (h1.base_le k hk).1; have := h8 g rfl; omega

/-- a tape and a slice that was made later -/
def OutRel (B : Nat) (w wr : World) (base b : Nat) (i o : List Int) (vx : Value) (q : Nat) : Prop :=
  ∃ S lx, TapeAt wr base b 48 i o S ∧ lx.length = i.length ∧ Own wr q 3 vx lx ∧ (∀ k, S k → k < q) ∧ B ≤ q ∧ Below B w wr

theorem OutRel.swap {B : Nat} {w wr : World} {base b g n c j q : Nat} {i o lx : List Int} {S : Nat → Prop} {x : Int} (h1 : TapeAt wr base b 48 i o S) (h2 : lx.length = i.length)
    (h4 : Own wr q 3 (.slice (some ⟨g, 0, none⟩) n c) lx) (h7 : ∀ k, S k → k < q) (h8 : B ≤ q) (h9 : Below B w wr) (hx : In64 x) :
    OutRel B w (wr.setCell ⟨g, j, none⟩ (.int .i64 x)) base b i o (.slice (some ⟨g, 0, none⟩) n c) q := by
  obtain ⟨k1, k2⟩ := own_set h4 j x hx
  have hq := h4.base_le g rfl
  refine ⟨S, _, h1.store (fun k hk e => ?_), by simpa using h2, k1, h7, h8, below_store h9 (by omega)⟩
  have := h7 k hk; omega

set_option maxHeartbeats 3200000 in
theorem walk_tapeNew (w : World) (v : Value) (i : List Int) (hv : RInts w v i) (u : Value) (o : List Int) (hu : RInts w u o) :
    Calls Try.prog 3 #[v, u] w fun e w' => e = .returned (.bool true) ∧ Below w.heap.size w w' := by
  have l1 := hv.1.1
  have l2 := hu.1.1
  cases hgr : (decide (5000 < i.length) || (decide (5000 < o.length) || decide (60 < ([] : List (Int × Int)).length))) with
  | true =>
    have HG := Lib.hid hgr
    clear hgr
    go_enter Try.func3, Try.ntmps3
    go_wp2_with fail
    refine (awake_any _).mono ?_
    rintro e w1 ⟨rfl, hb1⟩
    go_wp2_with fail
    refine (great_any v u _ i o [] w1 (hv.1.below hb1) (hu.1.below hb1) (OpsAt.nil _)).mono ?_
    rintro e w2 ⟨rfl, rfl⟩
    rw [HG.out]
    go_wp2
    go_ret
    exact ⟨rfl, hb1⟩
  | false =>
    have HG := Lib.hid hgr
    clear hgr
    go_enter Try.func3, Try.ntmps3
    go_wp2_with fail
    refine (awake_any _).mono ?_
    rintro e w1 ⟨rfl, hb1⟩
    have hv1 := hv.below hb1
    have hu1 := hu.below hb1
    have hz1 := hb1.size
    go_wp2_with fail
    refine (great_any v u _ i o [] w1 hv1.1 hu1.1 (OpsAt.nil _)).mono ?_
    rintro e w2 ⟨rfl, rfl⟩
    rw [HG.out]
    obtain ⟨av, cv, rfl⟩ := hv.1.form
    obtain ⟨au, cu, rfl⟩ := hu.1.form
    have hA : Below w1.heap.size w1 (w1.alloc (.cells #[] 3)) := (Below.refl _ _).alloc (Nat.le_refl _) _
    have hE : Own (w1.alloc (.cells #[] 3)) w1.heap.size 3 (.slice (some ⟨w1.heap.size, 0, none⟩) 0 0) [] := own_lit w1 w1.heap.size 3 [] (by simp) (fun x hx => by simp at hx) (Nat.le_refl _)
    go_wp2_with (at_builtin; refine wpl_appends TI rfl (.tmp 18) (.tmp 19) rfl rfl rfl hE (hv1.1.below hA) (by simp; omega) (by simp) ?_)
    intro va w2 h2 hg2 hn2
    have hb2 : Below w1.heap.size w1 w2 := below_grown hA hE hg2 (by simp)
    have hz2 := hb2.size
    obtain ⟨aa, ca, rfl⟩ := h2.form
    have hu2 := hu1.below hb2
    have hA2 : Below w2.heap.size w2 (w2.alloc (.cells #[] 3)) := (Below.refl _ _).alloc (Nat.le_refl _) _
    have hE2 : Own (w2.alloc (.cells #[] 3)) w2.heap.size 3 (.slice (some ⟨w2.heap.size, 0, none⟩) 0 0) [] := own_lit w2 w2.heap.size 3 [] (by simp) (fun x hx => by simp at hx) (Nat.le_refl _)
    clear hE hA hg2 hn2 hv1 hu1
    go_wp2_with (at_builtin; refine wpl_appends TI rfl (.tmp 21) (.tmp 22) rfl rfl rfl hE2 (hu2.1.below hA2) (by simp; omega) (by simp) ?_)
    intro vb w3 h3 hg3 hn3
    have hb3 : Below w2.heap.size w2 w3 := below_grown hA2 hE2 hg3 (by simp)
    have hz3 := hb3.size
    obtain ⟨ab, cb, rfl⟩ := h3.form
    have ha3 := h2.below hb3
    have hsep : Sep (.slice aa i.length ca) (.slice ab o.length cb) := (sep_young h3 h2.lies).symm
    have hB3 : Below w.heap.size w w3 := (hb1.trans (hb2.mono hz1)).trans (hb3.mono (by omega))
    clear hE2 hA2 hg3 hn3 hu2 hb2 hb3 h2
    by_cases hfull : 4096 < i.length ∨ 4096 < o.length
    · go_wp2_with fail
      refine (new_full _ _ i o w3 ha3.ints h3.ints hfull).mono ?_
      rintro e w4 ⟨rfl, rfl⟩
      by_cases hi4 : 4096 < i.length
      · have d1 : decide (4096 < (i.length : Int)) = true := by simp; omega
        go_wp2
        go_ret
        exact ⟨rfl, hB3⟩
      · have d1 : decide (4096 < (i.length : Int)) = false := by simp; omega
        have d2 : decide (4096 < (o.length : Int)) = true := by simp; omega
        go_wp2
        go_ret
        exact ⟨rfl, hB3⟩
    · have d1 : decide (4096 < (i.length : Int)) = false := by simp; omega
      have d2 : decide (4096 < (o.length : Int)) = false := by simp; omega
      go_wp2_with fail
      refine (new_any _ _ i o w3 ha3.ints h3.ints (by omega) (by omega)).mono ?_
      rintro e w4 ⟨b, S, rfl, ht, hb4⟩
      have hR : NewRel w.heap.size w w4 w3.heap.size b i o (.slice aa i.length ca) (.slice ab o.length cb) :=
        ⟨S, i, o, ht, rfl, rfl, (ha3.below hb4).mono hz1, (h3.below hb4).mono (by omega), hsep, ha3.lies, h3.lies, hB3.trans (hb4.mono (by omega))⟩
      clear ht hb4 ha3 h3 hsep hB3 hfull hb1
      go_wp2_with fail
      go_loopw [52] (fun x wr => ∃ j : Nat, x = .int .i64 j ∧ j ≤ i.length ∧ NewRel w.heap.size w wr w3.heap.size b i o (.slice aa i.length ca) (.slice ab o.length cb)) (fun x _ => i.length - (intOf x).toNat)
      case atStart => exact ⟨0, rfl, Nat.zero_le _, hR⟩
      case round =>
        clear hR
        obtain ⟨j, rfl, hj, S, la, lb, k1, k2, k3, k4, k5, k6, k7, k8, k9⟩ := hrel
        have K2 := Lib.hid k2
        have K3 := Lib.hid k3
        clear k2 k3
        by_cases hlt : j < i.length
        · obtain ⟨g, cap, he, hgl, hfz, hcl⟩ := k4.at (by have := K2.out; omega)
          have hc := hcl j (by have := K2.out; omega)
          have hf := hfz j
          simp only [Value.slice.injEq] at he
          obtain ⟨rfl, he2, rfl⟩ := he
          clear he2 hcl hfz
          have hw := wrap64_range (nth la j + 1)
          have hR := NewRel.swap (j := j) k1 K2.out K3.out k4 k5 k6 k7 k8 k9 hw
          clear k1 k4 k5 k6 k7 k8 k9 hw
          go_wp2
          go_roundw
          case rel => exact ⟨j + 1, by go_num, by omega, hR⟩
          case measure => simp [intOf]; omega
        · have d3 : decide (j < i.length) = false := by simpa using hlt
          have hR : NewRel w.heap.size w wr w3.heap.size b i o (.slice aa i.length ca) (.slice ab o.length cb) := ⟨S, la, lb, k1, K2.out, K3.out, k4, k5, k6, k7, k8, k9⟩
          clear k1 k4 k5 k6 k7 k8 k9 K2 K3
          go_wp2_with fail
          go_loopw [64] (fun x wr => ∃ j : Nat, x = .int .i64 j ∧ j ≤ o.length ∧ NewRel w.heap.size w wr w3.heap.size b i o (.slice aa i.length ca) (.slice ab o.length cb)) (fun x _ => o.length - (intOf x).toNat)
          case atStart => exact ⟨0, rfl, Nat.zero_le _, hR⟩
          case round =>
            clear hR
            obtain ⟨j, rfl, hj, S, la, lb, k1, k2, k3, k4, k5, k6, k7, k8, k9⟩ := hrel
            have K2 := Lib.hid k2
            have K3 := Lib.hid k3
            clear k2 k3
            by_cases hlt : j < o.length
            · obtain ⟨g, cap, he, hgl, hfz, hcl⟩ := k5.at (by have := K3.out; omega)
              have hc := hcl j (by have := K3.out; omega)
              have hf := hfz j
              simp only [Value.slice.injEq] at he
              obtain ⟨rfl, he2, rfl⟩ := he
              clear he2 hcl hfz
              have hw := wrap64_range (nth lb j + 1)
              have hR := NewRel.swap' (j := j) k1 K2.out K3.out k4 k5 k6 k7 k8 k9 hw
              clear k1 k4 k5 k6 k7 k8 k9 hw
              go_wp2
              go_roundw
              case rel => exact ⟨j + 1, by go_num, by omega, hR⟩
              case measure => simp [intOf]; omega
            · have d4 : decide (j < o.length) = false := by simpa using hlt
              clear K2 K3 k4 k5 k6 k7 k8
              have hz := k9.size
              go_wp2_with fail
              refine (in_any _ w3.heap.size b i o S k1).mono ?_
              rintro e w6 ⟨v6, rfl, h6, hb6⟩
              obtain ⟨a6, c6, rfl⟩ := h6.form
              have hS := k1.base_le
              have hR := Lib.hid (⟨S, i, k1.below hb6, rfl, h6, fun k hk => (hS k hk).2, hz, k9.trans (hb6.mono hz)⟩ : OutRel w.heap.size w w6 w3.heap.size b i o (.slice a6 i.length c6) _)
              clear k1 h6 hb6 k9 hS
              go_wp2_with fail
              obtain ⟨q, hR⟩ : ∃ q, OutRel w.heap.size w w6 w3.heap.size b i o (.slice a6 i.length c6) q := ⟨_, hR.out⟩
              go_loopw [78] (fun x wr => ∃ j : Nat, x = .int .i64 j ∧ j ≤ i.length ∧ OutRel w.heap.size w wr w3.heap.size b i o (.slice a6 i.length c6) q) (fun x _ => i.length - (intOf x).toNat)
              case atStart => exact ⟨0, rfl, Nat.zero_le _, hR⟩
              case round =>
                clear hR
                obtain ⟨j, rfl, hj, S, lx, k1, k2, k4, k7, k8, k9⟩ := hrel
                have K2 := Lib.hid k2
                clear k2
                by_cases hlt : j < i.length
                · obtain ⟨g, cap, he, hgl, hfz, hcl⟩ := k4.at (by have := K2.out; omega)
                  have hc := hcl j (by have := K2.out; omega)
                  have hf := hfz j
                  simp only [Value.slice.injEq] at he
                  obtain ⟨rfl, he2, rfl⟩ := he
                  clear he2 hcl hfz
                  have hw := wrap64_range (nth lx j - 1)
                  have hR := OutRel.swap (j := j) k1 K2.out k4 k7 k8 k9 hw
                  clear k1 k4 k7 k8 k9 hw
                  go_wp2
                  go_roundw
                  case rel => exact ⟨j + 1, by go_num, by omega, hR⟩
                  case measure => simp [intOf]; omega
                · have d5 : decide (j < i.length) = false := by simpa using hlt
                  have hz9 := k9.size
                  clear K2 k4 k7
                  go_wp2_with fail
                  refine (same_any _ _ b i o i o S _ _ k1 (hv.below k9).1 (hu.below k9).1).mono ?_
                  rintro e w8 ⟨rfl, hb8⟩
                  go_wp2
                  go_ret
                  exact ⟨by simp, k9.trans (hb8.mono hz9)⟩

set_option maxRecDepth 100000 in
theorem lifted_tapeNew (os : Os) (started : os.Started) (H : Type) (enc : TypeId × Value → H) :
    ReturnsInHanded {} Try.checked os 3 .any (Rows.tapeNewSpec.pre6 enc Try.prog Try.f3 Rows.tapeNewRow.domain false) (Rows.tapeNewSpec.post enc Try.prog Try.f3 false true false false) := by
  refine returnsInHanded_of_change_sized (C := Try.checked) own started (by kernel_rfl) Try.func3
    (ChangeSpec.witness6 (enc := enc) (C := Try.checked) false ⟨#[], #[.slice none 0 0, .slice none 0 0], []⟩ 8 (by kernel_rfl) (by kernel_rfl) (by kernel_rfl) (by kernel_rfl)) ?_
  intro W base args ds gs before hval0 hW hcnd hsz0 _
  have hsz : (DataW.weightsEach Try.prog (Try.f3.params.toList ++ Rows.tapeNewSpec.plain.varTypes Try.prog) (ds ++ gs)).all (· ≤ reachBytes) = true := hsz0
  have hval : ∀ (j : Nat) t v, Try.f3.params[j]? = some t → args[j]? = some v → Value.okWide Try.prog W .any base t v := hval0
  have hW' := hW
  obtain ⟨p, q, hA0, hV, rfl, hfz, hnd⟩ := hW
  have hA : DataW.TrodAll enc Try.prog W 0 (fun _ => true) true Try.f3.params.toList args.toList ds p := hA0
  rw [Try.params3] at hA hval hsz
  obtain ⟨v0, vs0, d0, ds0, p0, q0, hargs, rfl, rfl, h0, r0⟩ := trodAll_cons hA
  obtain ⟨v1, vs1, d1, ds1, p1, q1, rfl, rfl, rfl, h1, r1⟩ := trodAll_cons r0
  obtain ⟨rfl, rfl, rfl⟩ := trodAll_nil r1
  obtain rfl : args = #[v0, v1] := by cases args; simp_all
  obtain ⟨rfl, rfl⟩ := trodVars_none hV
  have k0 := h0
  have lt0 : ∀ x ∈ p0, x.block < W.heap.size := by obtain ⟨m, hm⟩ := k0; exact DataW.trod_lt m _ _ _ hm
  obtain ⟨l0, i0⟩ := openRInts (hval 0 22 v0 rfl rfl) h0 (fun elems spare e => sized_slice hsz (j := 0) rfl (by rw [e]; rfl) Try.underlying22)
  have k1 := h1
  have lt1 : ∀ x ∈ p1, x.block < W.heap.size := by obtain ⟨m, hm⟩ := k1; exact DataW.trod_lt m _ _ _ hm
  obtain ⟨l1, i1⟩ := openRInts (hval 1 22 v1 rfl rfl) h1 (fun elems spare e => sized_slice hsz (j := 1) rfl (by rw [e]; rfl) Try.underlying22)
  clear hA0 hval0
  refine (walk_tapeNew W v0 l0 i0 v1 l1 i1).mono fun e W' ⟨he, bel⟩ => ?_
  subst he
  exact ⟨_, rfl, _, _, _, [], _, [], hW', trodAll_mk1 (shut_bool Try.underlying4 _), (trodAll_cons_mk (Below.trod laidOut (by kernel_rfl) (of_decide_eq_true (by kernel_rfl)) k0 bel lt0) (trodAll_cons_mk (Below.trod laidOut (by kernel_rfl) (of_decide_eq_true (by kernel_rfl)) k1 bel lt1) trodAll_mk0)), rfl, bel.frame _, fun h => by cases h⟩

/-- the given statement -/
theorem proved_tapeNew : Rows.TapeNewSaid :=
  OpenClaim.holds_of_wide 3 Try.f3 rfl rfl rfl rfl rfl rfl rfl ⟨rfl, rfl, rfl, rfl, rfl⟩ rfl rfl rfl rfl rfl (by kernel_rfl) Try.func3 (by kernel_rfl)
    (of_decide_eq_true (by kernel_rfl)) (by unfold Func.isWrapper; first | (rw [if_pos (by decide +kernel)]; kernel_rfl) | (rw [if_neg (by decide +kernel)]; exact ⟨rfl, rfl⟩))
    (fun os started H enc _ => lifted_tapeNew os started H enc)
#print axioms proved_tapeNew

end Go.Proofs.Ytpeiajmgkhajoab
