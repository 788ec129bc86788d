/- PebbleLeast: for every n, k and list of moves the law returns true: no complete sequence is shorter than the best one with its peak. No condition. -/
import Derived.Test.YtpeiajmgkhajoaaPebN
import Derived.Test.YtpeiajmgkhajoaaOpen
import Derived.Test.YtpeiajmgkhajoaaPebS
namespace Go.Proofs.Ytpeiajmgkhajoaa
open Go.ChangeShapes Go.WideShapes Go.ChangeAt Go.RowKit
set_option linter.unusedVariables false

set_option maxRecDepth 100000 in
set_option maxHeartbeats 6400000 in
theorem walk_pebbleLeast (w : World) (n : Int) (hn : 0 ≤ n ∧ n ≤ 255) (k : Int) (hk : 0 ≤ k ∧ k ≤ 255) (v : Value) (l : List Int) (hv : IntsAt w v l) :
    Calls Try.prog 9 #[.int .u8 n, .int .u8 k, v] w fun e w' => e = .returned (.bool true) ∧ Below w.heap.size w w' := by
  cases hgr : greatB l with
  | true =>
    have HGR := Lib.hid hgr
    clear hgr
    go_enter Try.func9, Try.ntmps9
    go_wp2_with fail
    refine (awake_any w).mono ?_
    rintro e w1 ⟨rfl, hb1⟩
    have hz := hb1.size
    go_wp2_with fail
    refine (great_any v l w1 (hv.below hb1)).mono ?_
    rintro e w2 ⟨rfl, rfl⟩
    rw [HGR.out]
    go_wp2_with fail
    refine (awake_any w1).mono ?_
    rintro e w2 ⟨rfl, hb2⟩
    go_wp2
    go_ret
    exact ⟨rfl, hb1.trans (hb2.mono hz)⟩
  | false =>
    obtain ⟨hsm, hlen⟩ := greatB_false hgr
    have HGR := Lib.hid hgr
    clear hgr
    obtain ⟨n0, hn0⟩ := Int.eq_ofNat_of_zero_le hn.1
    subst hn0
    obtain ⟨k0, hk0⟩ := Int.eq_ofNat_of_zero_le hk.1
    subst hk0
    obtain ⟨a, ha⟩ : ∃ a : Nat, a = 1 + n0 % 8 := ⟨_, rfl⟩
    obtain ⟨b, hb⟩ : ∃ b : Nat, b = 2 + k0 % 8 := ⟨_, rfl⟩
    have ha1 : 1 + (n0 : Int) % 8 = (a : Int) := by omega
    have hb1 : 2 + (k0 : Int) % 8 = (b : Int) := by omega
    have ha2 : 1 ≤ a ∧ a ≤ 8 := by omega
    have hb2 : 2 ≤ b ∧ b ≤ 9 := by omega
    clear ha hb
    obtain ⟨av, cv, rfl⟩ := hv.form
    go_enter Try.func9, Try.ntmps9
    go_wp2_with fail
    refine (awake_any w).mono ?_
    rintro e w1 ⟨rfl, hB1⟩
    have hv1 := hv.below hB1
    have hz1 := hB1.size
    clear hv
    go_wp2_with fail
    refine (great_any _ l w1 hv1).mono ?_
    rintro e w2 ⟨rfl, rfl⟩
    rw [HGR.out]
    go_wp2_with fail
    refine (bennett_good a b w1 ha2.1 (by omega) hb2.1 (by omega)).mono ?_
    rintro e w2 ⟨vb, rfl, hvb, hB2⟩
    have hv2 := hv1.below hB2
    have hz2 := hB2.size
    have hB := hB1.trans (hB2.mono hz1)
    have hsb : Small (strat a b 0 a) := (within_strat a b 0 a hb2.1 ha2.1 (Nat.le_refl _)).small (by omega)
    have hvb' := hvb.ints
    clear hv1 hB1 hB2
    obtain ⟨ab, cb, rfl⟩ := hvb.form
    generalize strat a b 0 a = bl at *
    have hcell0 : (w2.alloc (.cells #[.slice ab bl.length cb, .slice av l.length cv] 23)).cell? ⟨w2.heap.size, 0, none⟩ = some (.slice ab bl.length cb) := by
      rw [World.cell?_alloc_at _ _ _ _ rfl]; rfl
    have hcell1 : (w2.alloc (.cells #[.slice ab bl.length cb, .slice av l.length cv] 23)).cell? ⟨w2.heap.size, 1, none⟩ = some (.slice av l.length cv) := by
      rw [World.cell?_alloc_at _ _ _ _ rfl]; rfl
    have hA : Below w2.heap.size w2 (w2.alloc (.cells #[.slice ab bl.length cb, .slice av l.length cv] 23)) := (Below.refl _ _).alloc (Nat.le_refl _) _
    have hi0 := hvb'.below hA
    have hi1 := hv2.below hA
    have hB3 := hB.trans (hA.mono (by omega))
    have hs3 : (w2.alloc (.cells #[.slice ab bl.length cb, .slice av l.length cv] 23)).heap.size = w2.heap.size + 1 := by simp
    have HS3 := Lib.hid hs3
    clear hvb hvb' hv2 hB hA hs3
    go_wp2
    generalize w2.alloc (.cells #[.slice ab bl.length cb, .slice av l.length cv] 23) = w3 at *
    go_loopg [44] 2 (fun g si wr => ∃ i : Nat, i ≤ 2 ∧ g = 2 - i ∧ si = .int .i64 i ∧ Below w3.heap.size w3 wr)
    case atStart => exact ⟨0, by omega, rfl, rfl, Below.refl _ _⟩
    case round =>
      obtain ⟨i, hi, rfl, rfl, hbl⟩ := hrel
      have hBr := hB3.trans (hbl.mono (by have := hB3.size; omega))
      by_cases hlt : i < 2
      · obtain ⟨vx, X, hcx, hix, hsx, hfx⟩ : ∃ vx X, wr.cell? ⟨w2.heap.size, i, none⟩ = some vx ∧ IntsAt wr vx X ∧ Small X ∧ ∃ a c, vx = .slice a X.length c := by
          by_cases e : i = 0
          · subst e
            exact ⟨_, bl, (hbl.cell (by show w2.heap.size < w3.heap.size; rw [HS3.out]; omega)).trans hcell0, hi0.below hbl, hsb, _, _, rfl⟩
          · obtain rfl : i = 1 := by omega
            exact ⟨_, l, (hbl.cell (by show w2.heap.size < w3.heap.size; rw [HS3.out]; omega)).trans hcell1, hi1.below hbl, hsm, _, _, rfl⟩
        obtain ⟨ax, cx, rfl⟩ := hfx
        have hzr := hBr.size
        have hbl0 := hbl.size
        clear hi0 hi1 hcell0 hcell1
        go_wp2_with fail
        refine (legal_any a _ X wr hix hsx (by omega) (by omega)).mono ?_
        rintro e w4 ⟨rfl, hB4⟩
        have hix4 := hix.below hB4
        have hbl4 := hbl.trans (hB4.mono hbl0)
        have hz4 := hB4.size
        clear hcx hix hbl hB4 hBr
        cases hok : (legalM a X).2 with
        | false =>
          go_wp2
          go_roundg (2 - (i + 1))
          case measure => omega
          case rel => exact ⟨i + 1, by omega, rfl, by go_num, hbl4⟩
        | true =>
          obtain ⟨hp1, best, hbt, hble⟩ := least a ha2.1 ha2.2 X hok
          have hpl : peakOf X ≤ 9223372036854775807 := by
            have h1 := hix4.1
            have := (peakTo_bd X X.length (Nat.le_refl _)).2.2.2
            have e : (peakTo X X.length).1 = peakOf X := by rw [peakTo, List.take_length]; rfl
            rw [e] at this; omega
          have hbp := best_p (p := peakOf X) ha2.1 ha2.2 hp1
          rw [hbt] at hbp
          have H1 : Hid (bestOk a (peakOf X) = true) := hbp.1
          have H2 : Hid (bestL a (peakOf X) = best) := hbp.2
          have HG := Lib.hid (good_p (p := peakOf X) ha2.1 ha2.2 hp1)
          have hd1 : decide ((X.length : Int) < (best.length : Int)) = false := by simp; omega
          have hd2 : decide (X.length < best.length) = false := by simp; omega
          clear hbt hbp
          go_wp2_with fail
          refine (peak_any _ X w4 hix4).mono ?_
          rintro e w5 ⟨rfl, rfl⟩
          go_wp2_with fail
          refine (best_any a (peakOf X) w4 ha2.1 ha2.2 hp1 hpl HG.out).mono ?_
          rintro e w5 ⟨v5, rfl, hv5, hB5⟩
          rw [H1.out]
          rw [H2.out] at hv5
          obtain ⟨a5, c5, rfl⟩ := hv5.form
          have hbl5 := hbl4.trans (hB5.mono (by omega))
          clear hv5 hB5 hbl4 hix4
          go_wp2
          go_roundg (2 - (i + 1))
          case measure => omega
          case rel => exact ⟨i + 1, by omega, rfl, by go_num, hbl5⟩
      · go_wp2
        go_ret
        exact ⟨rfl, hBr⟩

set_option maxRecDepth 100000 in
theorem lifted_pebbleLeast (os : Os) (started : os.Started) (H : Type) (enc : TypeId × Value → H) :
    ReturnsInHanded {} Try.checked os 9 .any (Rows.pebbleLeastSpec.pre6 enc Try.prog Try.f9 Rows.pebbleLeastRow.domain false) (Rows.pebbleLeastSpec.post enc Try.prog Try.f9 false true false false) := by
  refine returnsInHanded_of_change_sized (C := Try.checked) own started (by kernel_rfl) Try.func9
    (ChangeSpec.witness6 (enc := enc) (C := Try.checked) false ⟨#[], #[.int .u8 0, .int .u8 0, .slice none 0 0], []⟩ 8 (by kernel_rfl) (by kernel_rfl) (by kernel_rfl) (by kernel_rfl)) ?_
  intro W base args ds gs before hval0 hW hcnd hsz0 _
  have hsz : (DataW.weightsEach Try.prog (Try.f9.params.toList ++ Rows.pebbleLeastSpec.plain.varTypes Try.prog) (ds ++ gs)).all (· ≤ reachBytes) = true := hsz0
  have hval : ∀ (j : Nat) t v, Try.f9.params[j]? = some t → args[j]? = some v → Value.okWide Try.prog W .any base t v := hval0
  have hW' := hW
  obtain ⟨p, q, hA0, hV, rfl, hfz, hnd⟩ := hW
  have hA : DataW.TrodAll enc Try.prog W 0 (fun _ => true) true Try.f9.params.toList args.toList ds p := hA0
  rw [Try.params9] at hA hval hsz
  obtain ⟨v0, vs0, d0, ds0, p0, q0, hargs, rfl, rfl, h0, r0⟩ := trodAll_cons hA
  obtain ⟨v1, vs1, d1, ds1, p1, q1, rfl, rfl, rfl, h1, r1⟩ := trodAll_cons r0
  obtain ⟨v2, vs2, d2, ds2, p2, q2, rfl, rfl, rfl, h2, r2⟩ := trodAll_cons r1
  obtain ⟨rfl, rfl, rfl⟩ := trodAll_nil r2
  obtain rfl : args = #[v0, v1, v2] := by cases args; simp_all
  obtain ⟨rfl, rfl⟩ := trodVars_none hV
  obtain ⟨a0, rfl, rfl, rfl, w0⟩ := open_int Try.underlying5 (hval 0 5 v0 rfl rfl) h0
  obtain ⟨a1, rfl, rfl, rfl, w1⟩ := open_int Try.underlying5 (hval 1 5 v1 rfl rfl) h1
  have k2 := h2
  have lt2 : ∀ x ∈ p2, x.block < W.heap.size := by obtain ⟨m, hm⟩ := k2; exact DataW.trod_lt m _ _ _ hm
  obtain ⟨l2, i2⟩ := openInts (hval 2 23 v2 rfl rfl) h2 (fun elems spare e => sized_slice hsz (j := 2) rfl (by rw [e]; rfl) Try.underlying23)
  clear hA0 hval0
  refine (walk_pebbleLeast W a0 (rangeU8 w0) a1 (rangeU8 w1) v2 l2 i2).mono fun e W' ⟨he, bel⟩ => ?_
  subst he
  exact ⟨_, rfl, _, _, _, [], _, [], hW', trodAll_mk1 (shut_bool Try.underlying4 _), (trodAll_cons_mk (shut_int Try.underlying5 w0) (trodAll_cons_mk (shut_int Try.underlying5 w1) (trodAll_cons_mk (Below.trod laidOut (by kernel_rfl) (of_decide_eq_true (by kernel_rfl)) k2 bel lt2) trodAll_mk0))), rfl, bel.frame _, fun h => by cases h⟩

/-- the given statement -/
theorem proved_pebbleLeast : Rows.PebbleLeastSaid :=
  OpenClaim.holds_of_wide 9 Try.f9 rfl rfl rfl rfl rfl rfl rfl ⟨rfl, rfl, rfl, rfl, rfl⟩ rfl rfl rfl rfl rfl (by kernel_rfl) Try.func9 (by kernel_rfl)
    (of_decide_eq_true (by kernel_rfl)) (by unfold Func.isWrapper; first | (rw [if_pos (by decide +kernel)]; kernel_rfl) | (rw [if_neg (by decide +kernel)]; exact ⟨rfl, rfl⟩))
    (fun os started H enc _ => lifted_pebbleLeast os started H enc)
#print axioms proved_pebbleLeast

end Go.Proofs.Ytpeiajmgkhajoaa
