/- PebbleInverse: for every n and every list of moves the law returns true: a legal sequence followed by its inverse is legal and leaves no pebble. No condition. -/
import Derived.Test.YtpeiajmgkhajoaaPebN
import Derived.Test.YtpeiajmgkhajoaaOpen
namespace Go.Proofs.Ytpeiajmgkhajoaa
open Go.ChangeShapes Go.WideShapes Go.ChangeAt Go.RowKit
set_option linter.unusedVariables false

set_option maxHeartbeats 6400000 in
theorem walk_pebbleInverse (w : World) (n : Int) (hn : -9223372036854775808 ≤ n ∧ n ≤ 9223372036854775807) (v : Value) (l : List Int) (hv : IntsAt w v l) :
    Calls Try.prog 8 #[.int .i64 n, v] w fun e w' => e = .returned (.bool true) ∧ Below w.heap.size w w' := by
  cases hgr : greatB l with
  | true =>
    have HGR := Lib.hid hgr
    clear hgr
    go_enter Try.func8, Try.ntmps8
    go_wp2_with fail
    refine (awake_any w).mono ?_
    rintro e w1 ⟨rfl, hb1⟩
    have hz := hb1.size
    go_wp2_with fail
    refine (great_any v l w1 (hv.below hb1)).mono ?_
    rintro e w2 ⟨rfl, rfl⟩
    rw [HGR.out]
    go_wp2_with fail
    refine (awake_any w1).mono ?_
    rintro e w2 ⟨rfl, hb2⟩
    go_wp2
    go_ret
    exact ⟨rfl, hb1.trans (hb2.mono hz)⟩
  | false =>
    obtain ⟨hsm, hlen⟩ := greatB_false hgr
    have HGR := Lib.hid hgr
    clear hgr
    by_cases hn3 : 300 < n
    · have d1 : decide (300 < n) = true := by simpa using hn3
      go_enter Try.func8, Try.ntmps8
      go_wp2_with fail
      refine (awake_any w).mono ?_
      rintro e w1 ⟨rfl, hb1⟩
      have hz := hb1.size
      go_wp2_with fail
      refine (great_any v l w1 (hv.below hb1)).mono ?_
      rintro e w2 ⟨rfl, rfl⟩
      rw [HGR.out]
      go_wp2_with fail
      refine (awake_any w1).mono ?_
      rintro e w2 ⟨rfl, hb2⟩
      go_wp2
      go_ret
      exact ⟨rfl, hb1.trans (hb2.mono hz)⟩
    · have d1 : decide (300 < n) = false := by simpa using hn3
      obtain ⟨av, cv, rfl⟩ := hv.form
      go_enter Try.func8, Try.ntmps8
      go_wp2_with fail
      refine (awake_any w).mono ?_
      rintro e w1 ⟨rfl, hb1⟩
      have hv1 := hv.below hb1
      have hz1 := hb1.size
      clear hv
      go_wp2_with fail
      refine (great_any _ l w1 hv1).mono ?_
      rintro e w2 ⟨rfl, rfl⟩
      rw [HGR.out]
      go_wp2_with fail
      refine (inverse_any _ l w1 hv1 hsm).mono ?_
      rintro e w2 ⟨vb, rfl, hvb, hb2⟩
      have hv2 := hv1.below hb2
      have hz2 := hb2.size
      have hB2 := hb1.trans (hb2.mono hz1)
      clear hv1 hb1 hb2
      go_wp2_with fail
      refine (inverse_any _ _ w2 hvb.ints hsm.negRev).mono ?_
      rintro e w3 ⟨vc, rfl, hvc, hb3⟩
      have hv3 := hv2.below hb3
      have hvb3 := hvb.below hb3
      have hz3 := hb3.size
      have hB3 := hB2.trans (hb3.mono (by omega))
      clear hv2 hb3 hvb hB2
      rw [negRev_negRev] at hvc
      go_wp2_with fail
      refine (ints_any _ _ _ _ w3 hvc.ints hv3).mono ?_
      rintro e w4 ⟨rfl, hb4⟩
      rw [decide_eq_true (rfl : l = l)]
      have hv4 := hv3.below hb4
      have hvb4 := hvb3.below hb4
      have hz4 := hb4.size
      have hB4 := hB3.trans (hb4.mono (by omega))
      clear hv3 hb4 hvb3 hB3 hvc
      go_wp2_with fail
      refine (legal_any n _ l w4 hv4 hsm hn.1 (by omega)).mono ?_
      rintro e w5 ⟨rfl, hb5⟩
      have hv5 := hv4.below hb5
      have hvb5 := hvb4.below hb5
      have hz5 := hb5.size
      have hB5 := hB4.trans (hb5.mono (by omega))
      clear hv4 hb5 hvb4 hB4
      cases hrun : runL n (on0 n) l with
      | none =>
        have hg := lgGo_none hrun 0
        have e2 : (legalM n l).2 = false := hg.2
        have h1 : (legalM n l).1 < l.length := by have := hg.1; rw [Nat.zero_add] at this; exact this
        generalize legalM n l = r at *
        obtain ⟨r1, r2⟩ := r
        simp only at e2 h1
        subst e2
        clear hg hrun
        go_wp2
        go_ret
        exact ⟨rfl, hB5⟩
      | some on1 =>
        have hg : legalM n l = (l.length, complete n on1) := by rw [legalM, lgGo_some hrun 0, Nat.zero_add]
        have hback := runL_back (on0_len n) hrun
        have hboth : runL n (on0 n) (l ++ negRev l) = some (on0 n) := by rw [runL_append, hrun]; exact hback
        have honce : runL n (on0 n) (l ++ negRev l ++ l) = some on1 := by rw [runL_append, hboth]; exact hrun
        have hgb : legalM n (l ++ negRev l) = ((l ++ negRev l).length, false) := by rw [legalM, lgGo_some hboth 0, Nat.zero_add, complete_on0]
        have hgo : legalM n (l ++ negRev l ++ l) = ((l ++ negRev l ++ l).length, complete n on1) := by rw [legalM, lgGo_some honce 0, Nat.zero_add]
        have HGB := Lib.hid hgb
        have HGO := Lib.hid hgo
        rw [hg]
        have HPB := Lib.hid (peak_both l)
        have hbl : (l ++ negRev l).length ≤ 1200 := by rw [List.length_append, negRev_len]; omega
        have hol : (l ++ negRev l ++ l).length ≤ 1800 := by rw [List.length_append]; omega
        have hs7 : Small (l ++ negRev l) := hsm.append hsm.negRev
        have hs8 : Small (l ++ negRev l ++ l) := hs7.append hsm
        clear hg hback hboth honce hgb hgo hrun
        obtain ⟨both, HBO⟩ : ∃ b, Hid (l ++ negRev l = b) := ⟨_, rfl⟩
        rw [HBO.out] at HGB HGO HPB hbl hol hs7 hs8
        obtain ⟨once, HON⟩ : ∃ b, Hid (both ++ l = b) := ⟨_, rfl⟩
        rw [HON.out] at HGO hol hs8
        generalize complete n on1 = okb at *
        have hnl := negRev_len l
        have HNL := Lib.hid hnl
        clear hnl
        have hA : Below w5.heap.size w5 (w5.alloc (.cells #[] 3)) := (Below.refl _ _).alloc (Nat.le_refl _) _
        have hE : Own (w5.alloc (.cells #[] 3)) w5.heap.size 3 (.slice (some ⟨w5.heap.size, 0, none⟩) 0 0) [] := own_lit w5 w5.heap.size 3 [] (by simp) (fun x hx => by simp at hx) (Nat.le_refl _)
        go_wp2_with (at_builtin; refine wpl_appends TI rfl _ _ rfl rfl rfl hE (hv5.below hA) (by simp; omega) (by simp) ?_)
        intro v6 w6 h6 hg6 hn6
        have hB56 : Below w5.heap.size w5 w6 := hA.grown hg6 (by simp) (fun k hk => by simp [Value.ownBlock] at hk; omega)
        have hz6 := hB56.size
        have hvb6 := (hvb5.below hB56).ints
        clear hg6 hn6 hE hA
        go_wp2_with (at_builtin; refine wpl_appends TI rfl _ _ rfl rfl rfl h6 hvb6 (by rw [HNL.out]; omega) hz6 ?_)
        intro v7 w7 h7 hg7 hn7
        rw [HBO.out] at h7
        have hB57 := below_grown hB56 h6 hg7 hz6
        have hv7 := hv5.below hB57
        have hz7 := hB57.size
        have hB7 := hB5.trans (hB57.mono (by omega))
        clear hg7 hn7 h6 hB56 hB57 hvb6 hvb5 hv5 hB5
        obtain ⟨a7, c7, rfl⟩ := h7.form
        go_wp2_with fail
        refine (legal_any n _ _ w7 h7.ints hs7 hn.1 (by omega)).mono ?_
        rintro e w8 ⟨rfl, hb8⟩
        rw [HGB.out]
        have hv8 := hv7.below hb8
        have h8 := h7.below hb8
        have hz8 := hb8.size
        have hB8 := hB7.trans (hb8.mono (by omega))
        clear hb8 hv7 h7 hB7
        have hA : Below w8.heap.size w8 (w8.alloc (.cells #[] 3)) := (Below.refl _ _).alloc (Nat.le_refl _) _
        have hE : Own (w8.alloc (.cells #[] 3)) w8.heap.size 3 (.slice (some ⟨w8.heap.size, 0, none⟩) 0 0) [] := own_lit w8 w8.heap.size 3 [] (by simp) (fun x hx => by simp at hx) (Nat.le_refl _)
        go_wp2_with (at_builtin; refine wpl_appends TI rfl _ _ rfl rfl rfl hE (h8.below hA).ints (by simp; omega) (by simp) ?_)
        intro v9 w9 h9 hg9 hn9
        have hB89 : Below w8.heap.size w8 w9 := hA.grown hg9 (by simp) (fun k hk => by simp [Value.ownBlock] at hk; omega)
        have hz9 := hB89.size
        have hv9 := hv8.below hB89
        clear hg9 hn9 hE hA
        go_wp2_with (at_builtin; refine wpl_appends TI rfl _ _ rfl rfl rfl h9 hv9 (by omega) hz9 ?_)
        intro v10 w10 h10 hg10 hn10
        rw [HON.out] at h10
        have hB810 := below_grown hB89 h9 hg10 hz9
        have hv10 := hv8.below hB810
        have h8' := h8.below hB810
        have hz10 := hB810.size
        have hB10 := hB8.trans (hB810.mono (by omega))
        clear hg10 hn10 h9 hB89 hB810 hv9 hv8 h8 hB8
        obtain ⟨a10, c10, rfl⟩ := h10.form
        go_wp2_with fail
        refine (legal_any n _ _ w10 h10.ints hs8 hn.1 (by omega)).mono ?_
        rintro e w11 ⟨rfl, hb11⟩
        rw [HGO.out]
        have hv11 := (hv10.below hb11)
        have h11 := (h8'.below hb11).ints
        have hB11 := hB10.trans (hb11.mono (by omega))
        clear hb11 hv10 h8' h10 hB10
        have q1 : (((both.length : Nat) : Int) == (both.length : Int)) = true := by simp
        have q2 : (((once.length : Nat) : Int) == (once.length : Int)) = true := by simp
        have q3 : (peakOf l == peakOf l) = true := by simp
        have q4 : (okb == okb) = true := by simp
        go_wp2_with fail
        refine (peak_any _ _ w11 h11).mono ?_
        rintro e w12 ⟨rfl, rfl⟩
        rw [HPB.out]
        go_wp2_with fail
        refine (peak_any _ _ w11 hv11).mono ?_
        rintro e w12 ⟨rfl, rfl⟩
        go_wp2
        go_ret
        exact ⟨rfl, hB11⟩

set_option maxRecDepth 100000 in
theorem lifted_pebbleInverse (os : Os) (started : os.Started) (H : Type) (enc : TypeId × Value → H) :
    ReturnsInHanded {} Try.checked os 8 .any (Rows.pebbleInverseSpec.pre6 enc Try.prog Try.f8 Rows.pebbleInverseRow.domain false) (Rows.pebbleInverseSpec.post enc Try.prog Try.f8 false true false false) := by
  refine returnsInHanded_of_change_sized (C := Try.checked) own started (by kernel_rfl) Try.func8
    (ChangeSpec.witness6 (enc := enc) (C := Try.checked) false ⟨#[], #[.int .i64 0, .slice none 0 0], []⟩ 8 (by kernel_rfl) (by kernel_rfl) (by kernel_rfl) (by kernel_rfl)) ?_
  intro W base args ds gs before hval0 hW hcnd hsz0 _
  have hsz : (DataW.weightsEach Try.prog (Try.f8.params.toList ++ Rows.pebbleInverseSpec.plain.varTypes Try.prog) (ds ++ gs)).all (· ≤ reachBytes) = true := hsz0
  have hval : ∀ (j : Nat) t v, Try.f8.params[j]? = some t → args[j]? = some v → Value.okWide Try.prog W .any base t v := hval0
  have hW' := hW
  obtain ⟨p, q, hA0, hV, rfl, hfz, hnd⟩ := hW
  have hA : DataW.TrodAll enc Try.prog W 0 (fun _ => true) true Try.f8.params.toList args.toList ds p := hA0
  rw [Try.params8] at hA hval hsz
  obtain ⟨v0, vs0, d0, ds0, p0, q0, hargs, rfl, rfl, h0, r0⟩ := trodAll_cons hA
  obtain ⟨v1, vs1, d1, ds1, p1, q1, rfl, rfl, rfl, h1, r1⟩ := trodAll_cons r0
  obtain ⟨rfl, rfl, rfl⟩ := trodAll_nil r1
  obtain rfl : args = #[v0, v1] := by cases args; simp_all
  obtain ⟨rfl, rfl⟩ := trodVars_none hV
  obtain ⟨a0, rfl, rfl, rfl, w0⟩ := open_int Try.underlying3 (hval 0 3 v0 rfl rfl) h0
  have k1 := h1
  have lt1 : ∀ x ∈ p1, x.block < W.heap.size := by obtain ⟨m, hm⟩ := k1; exact DataW.trod_lt m _ _ _ hm
  obtain ⟨l1, i1⟩ := openInts (hval 1 23 v1 rfl rfl) h1 (fun elems spare e => sized_slice hsz (j := 1) rfl (by rw [e]; rfl) Try.underlying23)
  clear hA0 hval0
  refine (walk_pebbleInverse W a0 (rangeI64 w0) v1 l1 i1).mono fun e W' ⟨he, bel⟩ => ?_
  subst he
  exact ⟨_, rfl, _, _, _, [], _, [], hW', trodAll_mk1 (shut_bool Try.underlying4 _), (trodAll_cons_mk (shut_int Try.underlying3 w0) (trodAll_cons_mk (Below.trod laidOut (by kernel_rfl) (of_decide_eq_true (by kernel_rfl)) k1 bel lt1) trodAll_mk0)), rfl, bel.frame _, fun h => by cases h⟩

/-- the given statement -/
theorem proved_pebbleInverse : Rows.PebbleInverseSaid :=
  OpenClaim.holds_of_wide 8 Try.f8 rfl rfl rfl rfl rfl rfl rfl ⟨rfl, rfl, rfl, rfl, rfl⟩ rfl rfl rfl rfl rfl (by kernel_rfl) Try.func8 (by kernel_rfl)
    (of_decide_eq_true (by kernel_rfl)) (by unfold Func.isWrapper; first | (rw [if_pos (by decide +kernel)]; kernel_rfl) | (rw [if_neg (by decide +kernel)]; exact ⟨rfl, rfl⟩))
    (fun os started H enc _ => lifted_pebbleInverse os started H enc)
#print axioms proved_pebbleInverse

end Go.Proofs.Ytpeiajmgkhajoaa
