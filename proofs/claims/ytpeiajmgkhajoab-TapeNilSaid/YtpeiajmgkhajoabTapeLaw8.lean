/- TapeNil: for every list of operations the law returns true: a nil tape answers ErrArg, and the zero tape behaves like an empty one. No condition. -/
import Derived.Test.YtpeiajmgkhajoabTapeI
import Derived.Deep.RegionHeld3
namespace Go.Proofs.Ytpeiajmgkhajoab
open Go.ChangeShapes Go.WideShapes Go.ChangeAt Go.RowKit
set_option linter.unusedVariables false

def NilRel (B : Nat) (w wr : World) (base b r : Nat) (l : List (Int × Int)) (k : Nat) : Prop := k ≤ l.length ∧ ∃ i o, Both B w wr base b r i o

theorem zero_tape (w : World) : TapeAt (w.alloc (.cells #[.slice none 0 0, .slice none 0 0] 48)) w.heap.size w.heap.size 48 [] [] (fun k => k = w.heap.size) :=
  ⟨_, _, by decide, Nat.le_refl _, by simp, heap_alloc_new _ _, Own.nil _ _ _, Own.nil _ _ _, fun k h => by simp [Value.ownBlock] at h, fun k => by simp [Value.ownBlock]⟩

set_option maxHeartbeats 800000 in
theorem walk_tapeNil (w : World) (x : Value) (l : List (Int × Int)) (hx : OpsAt w x l) :
    Calls Try.prog 10 #[x] w fun e w' => e = .returned (.bool true) ∧ Below w.heap.size w w' := by
  cases hgr : (decide (5000 < ([] : List Int).length) || (decide (5000 < ([] : List Int).length) || decide (60 < l.length))) with
  | true =>
    have HG := Lib.hid hgr
    clear hgr
    go_enter Try.func10, Try.ntmps10
    go_wp2_with fail
    refine (awake_any w).mono ?_
    rintro e w1 ⟨rfl, hb1⟩
    go_wp2_with fail
    refine (great_any _ _ x [] [] l w1 (IntsAt.nil _) (IntsAt.nil _) (hx.below hb1)).mono ?_
    rintro e w2 ⟨rfl, rfl⟩
    rw [HG.out]
    go_wp2
    go_ret
    exact ⟨rfl, hb1⟩
  | false =>
    have HG := Lib.hid hgr
    clear hgr
    have hln := hx.1
    go_enter Try.func10, Try.ntmps10
    go_wp2_with fail
    refine (awake_any w).mono ?_
    rintro e w1 ⟨rfl, hb1⟩
    have hx1 := hx.below hb1
    go_wp2_with fail
    refine (great_any _ _ x [] [] l w1 (IntsAt.nil _) (IntsAt.nil _) hx1).mono ?_
    rintro e w2 ⟨rfl, rfl⟩
    rw [HG.out]
    have hz1 := hb1.size
    have hB := Both.start (zero_tape w1) (RInts.nil _) (RInts.nil _) (hb1.alloc hz1 _) hz1 (Nat.le_refl _) (fun k _ => ⟨fun h => by simp [Foot] at h, fun h => by simp [Foot] at h⟩)
    obtain ⟨a, cap, rfl⟩ := hx1.form
    clear hx1 hb1
    go_wp2_with fail
    go_loopw [22] (fun j wr => ∃ k : Nat, j = .int .i64 k ∧ NilRel w.heap.size w wr w1.heap.size w1.heap.size (w1.heap.size + 1) l k) (fun j _ => l.length - (intOf j).toNat)
    case atStart => exact ⟨0, rfl, Nat.zero_le _, [], [], by simpa using hB⟩
    case round =>
      clear hB
      obtain ⟨k, rfl, hk, i, o, S, R, h1, h2, h3, h4, h5, h6, h7⟩ := hrel
      have hxr := hx.below h4
      by_cases hlt : k < l.length
      · obtain ⟨_, hfits, a0, c0, e0, hcell⟩ := id hxr
        simp only [Value.slice.injEq] at e0
        obtain ⟨rfl, -, rfl⟩ := e0
        obtain ⟨g, off, rfl, hgl, hc⟩ := hcell (by omega)
        obtain ⟨hc0, hc1⟩ := hc k hlt
        have hin := hfits _ (opAt_mem hlt)
        clear hc hcell hfits
        go_wp2_with fail
        have hA : Below wr.heap.size wr (wr.alloc (.cells #[.int .i64 (opAt l k).1, .int .i64 (opAt l k).2] 37)) := (Below.refl _ _).alloc (Nat.le_refl _) _
        have hzr := h4.size
        refine (do_nil _ (opAt l k).1 (opAt l k).2).mono ?_
        rintro e w2 ⟨rfl, hb2⟩
        have hs2 := hb2.size
        simp at hs2
        have t1 := (h1.alloc _).below hb2
        have r1 := (h2.below hA).below hb2
        have hB2 : Below w.heap.size w w2 := (h4.alloc hzr _).trans (hb2.mono (by simp; omega))
        have hS : ∀ k, S k → k < wr.heap.size := fun k hk => (h1.base_le k hk).2
        have hq0 : w2.cell? ⟨wr.heap.size, 0, none⟩ = some (.int .i64 (opAt l k).1) := (hb2.cell (p := ⟨wr.heap.size, 0, none⟩) (by simp)).trans (by simp)
        have hq1 : w2.cell? ⟨wr.heap.size, 1, none⟩ = some (.int .i64 (opAt l k).2) := (hb2.cell (p := ⟨wr.heap.size, 1, none⟩) (by simp)).trans (by simp)
        clear h1 h2 h4 hc0 hc1 hb2 hA
        go_wp2_with fail
        refine (do_any w2 w1.heap.size w1.heap.size i o (opAt l k).1 (opAt l k).2 S t1 hin.2).mono ?_
        rintro e w3 ⟨rfl, hl⟩
        obtain ⟨⟨S3, R3, t3, r3, d3, b3, -⟩, hcl⟩ := half_of t1 r1 h3 hB2 h5 h6 h7 hl
        have hp0 : w3.cell? ⟨wr.heap.size, 0, none⟩ = some (.int .i64 (opAt l k).1) := (hcl ⟨wr.heap.size, 0, none⟩ (by simp; omega) (fun hk => by have := hS _ hk; simp at this)).trans hq0
        have hp1 : w3.cell? ⟨wr.heap.size, 1, none⟩ = some (.int .i64 (opAt l k).2) := (hcl ⟨wr.heap.size, 1, none⟩ (by simp; omega) (fun hk => by have := hS _ hk; simp at this)).trans hq1
        clear hcl hl t1 r1 hB2 h3 hS hq0 hq1
        go_wp2_with fail
        refine (refdo_any w3 (w1.heap.size + 1) i o (opAt l k).1 (opAt l k).2 R3 r3 hin.2).mono ?_
        rintro e w4 ⟨rfl, hr⟩
        have hB := both_of t3 r3 d3 b3 h5 h6 h7 hr
        clear hr t3 r3 d3 b3 hp0 hp1 hxr
        go_wp2
        go_roundw
        case rel => exact ⟨k + 1, by go_num, by omega, _, _, hB⟩
        case measure => simp [intOf]; omega
      · have d1 : decide (k < l.length) = false := by simpa using hlt
        obtain ⟨iv, ov, hh, hi, ho, hri, hro, hR⟩ := id h2
        have hc0 : wr.cell? ⟨w1.heap.size + 1, 0, none⟩ = some iv := by simp [World.cell?, hh]
        have hc1 : wr.cell? ⟨w1.heap.size + 1, 1, none⟩ = some ov := by simp [World.cell?, hh]
        obtain ⟨ai, ci, rfl⟩ := hi.form
        obtain ⟨ao, co, rfl⟩ := ho.form
        have hsame := Lib.hid (same_any wr.drew _ w1.heap.size i o i o S _ _ (h1.below (below_drewN (Below.refl _ _) 1)) hi ho)
        go_wp2_with fail
        have hlt2 : w1.heap.size + 1 < wr.heap.size := by rw [Array.getElem?_eq_some_iff] at hh; exact hh.1
        go_region_held3 (fun w' => w'.cell? ⟨w1.heap.size + 1, 0, none⟩ = some (.slice ai i.length ci) ∧ w'.cell? ⟨w1.heap.size + 1, 1, none⟩ = some (.slice ao o.length co))
          (first | go_keep | exact ⟨(hb3.cell (p := ⟨w1.heap.size + 1, 0, none⟩) hlt2).trans hc0, (hb3.cell (p := ⟨w1.heap.size + 1, 1, none⟩) hlt2).trans hc1⟩)
          (first
          | (go_at_call 14; refine (in_nil _).mono ?_; rintro e w' ⟨rfl, rfl⟩)
          | (go_at_call 19; refine (out_nil _).mono ?_; rintro e w' ⟨rfl, rfl⟩)
          | (go_at_call 15; refine hsame.out.mono ?_; rintro e w3 ⟨rfl, hb3⟩))
        all_goals
          go_wp2
          go_ret
          exact ⟨by simp, (below_drewN h4 1).trans (hb3.mono h4.size)⟩

set_option maxRecDepth 100000 in
theorem lifted_tapeNil (os : Os) (started : os.Started) (H : Type) (enc : TypeId × Value → H) :
    ReturnsInHanded {} Try.checked os 10 .any (Rows.tapeNilSpec.pre6 enc Try.prog Try.f10 Rows.tapeNilRow.domain false) (Rows.tapeNilSpec.post enc Try.prog Try.f10 false true false false) := by
  refine returnsInHanded_of_change_sized (C := Try.checked) own started (by kernel_rfl) Try.func10
    (ChangeSpec.witness6 (enc := enc) (C := Try.checked) false ⟨#[], #[.slice none 0 0], []⟩ 8 (by kernel_rfl) (by kernel_rfl) (by kernel_rfl) (by kernel_rfl)) ?_
  intro W base args ds gs before hval0 hW hcnd hsz0 _
  have hsz : (DataW.weightsEach Try.prog (Try.f10.params.toList ++ Rows.tapeNilSpec.plain.varTypes Try.prog) (ds ++ gs)).all (· ≤ reachBytes) = true := hsz0
  have hval : ∀ (j : Nat) t v, Try.f10.params[j]? = some t → args[j]? = some v → Value.okWide Try.prog W .any base t v := hval0
  have hW' := hW
  obtain ⟨p, q, hA0, hV, rfl, hfz, hnd⟩ := hW
  have hA : DataW.TrodAll enc Try.prog W 0 (fun _ => true) true Try.f10.params.toList args.toList ds p := hA0
  rw [Try.params10] at hA hval hsz
  obtain ⟨v0, vs0, d0, ds0, p0, q0, hargs, rfl, rfl, h0, r0⟩ := trodAll_cons hA
  obtain ⟨rfl, rfl, rfl⟩ := trodAll_nil r0
  obtain rfl : args = #[v0] := by cases args; simp_all
  obtain ⟨rfl, rfl⟩ := trodVars_none hV
  have k0 := h0
  have lt0 : ∀ x ∈ p0, x.block < W.heap.size := by obtain ⟨m, hm⟩ := k0; exact DataW.trod_lt m _ _ _ hm
  obtain ⟨l0, i0⟩ := openOps (hval 0 32 v0 rfl rfl) h0 (fun elems spare e => sized_slice hsz (j := 0) rfl (by rw [e]; rfl) Try.underlying32)
  clear hA0 hval0
  refine (walk_tapeNil W v0 l0 i0).mono fun e W' ⟨he, bel⟩ => ?_
  subst he
  exact ⟨_, rfl, _, _, _, [], _, [], hW', trodAll_mk1 (shut_bool Try.underlying4 _), (trodAll_cons_mk (Below.trod laidOut (by kernel_rfl) (of_decide_eq_true (by kernel_rfl)) k0 bel lt0) trodAll_mk0), rfl, bel.frame _, fun h => by cases h⟩

/-- the given statement -/
theorem proved_tapeNil : Rows.TapeNilSaid :=
  OpenClaim.holds_of_wide 10 Try.f10 rfl rfl rfl rfl rfl rfl rfl ⟨rfl, rfl, rfl, rfl, rfl⟩ rfl rfl rfl rfl rfl (by kernel_rfl) Try.func10 (by kernel_rfl)
    (of_decide_eq_true (by kernel_rfl)) (by unfold Func.isWrapper; first | (rw [if_pos (by decide +kernel)]; kernel_rfl) | (rw [if_neg (by decide +kernel)]; exact ⟨rfl, rfl⟩))
    (fun os started H enc _ => lifted_tapeNil os started H enc)
#print axioms proved_tapeNil

end Go.Proofs.Ytpeiajmgkhajoab
