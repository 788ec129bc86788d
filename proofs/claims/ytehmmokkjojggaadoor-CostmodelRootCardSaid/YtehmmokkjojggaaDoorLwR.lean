/- The law CostmodelRoot. -/
import Derived.Test.YtehmmokkjojggaaDoorCmF
import Derived.Test.YtehmmokkjojggaaDoorCmB
namespace Go.Proofs.YtehmmokkjojggaaDoor
set_option linter.unusedVariables false
set_option linter.unusedSimpArgs false
open Go.RowKit

theorem pred_bad {lib : List Fn} {name : ByteArray} {kept : List ByteArray} {args : List Vl} {fuel : Int} (h : (predN lib name kept args fuel).err ≠ 0) : (predN lib name kept args fuel).cnt = noCnt ∧ (predN lib name kept args fuel).gar = 0 := by
  unfold predN at h ⊢
  by_cases h1 : (validE lib).2 ≠ 0
  · rw [if_pos h1]; exact ⟨rfl, rfl⟩
  rw [if_neg h1] at h ⊢
  by_cases h2 : findF lib name < 0 ∨ (∃ k ∈ kept, findF lib k < 0)
  · rw [if_pos h2]; exact ⟨rfl, rfl⟩
  rw [if_neg h2] at h ⊢
  by_cases h3 : ¬ kept.Nodup
  · rw [if_pos h3]; exact ⟨rfl, rfl⟩
  rw [if_neg h3] at h ⊢
  by_cases h4 : (startN lib name args fuel).err ≠ 0
  · rw [if_pos h4]; exact ⟨rfl, rfl⟩
  rw [if_neg h4] at h
  exact absurd rfl h
set_option maxRecDepth 100000 in set_option maxHeartbeats 3200000 in theorem walk_costmodelRoot (w : World) (ht : Tab w) (lv : Value) (lib : List Fn) (hl : FnsAt Any w lv lib) (name : ByteArray) (hn : name.size ≤ maxLen) (kv : Value) (kept : List ByteArray) (hk : StrsAt Any w kv kept) (av : Value) (args : List Vl) (ha : RowsAt VlE Any w av args) :
    Calls Tryd.prog 7 #[lv, .string name, kv, av] w fun e w' => e = .returned (.bool true) ∧ Below w.heap.size w w' := by
  obtain ⟨hll, la, lc, rfl⟩ := hl.form
  obtain ⟨hkl, ka, kc, rfl⟩ := hk.form
  obtain ⟨hal, aa, ac, rfl⟩ := ha.form
  unfold maxLen at hll hkl hal
  have HT := Lib.hid ht
  have HL := Lib.hid hl
  have HK := Lib.hid hk
  have HA := Lib.hid ha
  clear ht hl hk ha
  go_enter Tryd.func7, Tryd.ntmps7
  go_wp2_with fail
  refine (awake_any _ HT.out).mono ?_
  rintro e w2 ⟨rfl, hb2⟩
  have HB2 := Lib.hid hb2
  go_wp2_with fail
  refine (great43_any _ lib ka kc kept aa ac args Any w2 (HL.out.stays (Stays.of_below hb2)) (HA.out.stays (Stays.of_below hb2))).mono ?_
  rintro e w3 ⟨b, rfl, hg, hb3⟩
  have HB3 := Lib.hid (hb2.trans (hb3.mono hb2.size))
  clear hb2 hb3
  cases b with
  | true =>
    go_wp2
    go_ret
    exact ⟨rfl, HB3.out⟩
  | false =>
    obtain ⟨hgo, hk10⟩ := hg rfl
    have HP := Lib.hid (predict_any la lc lib name ka kc kept aa ac args 400 Any w3 (HL.out.stays (Stays.of_below HB3.out)) (HK.out.stays (Stays.of_below HB3.out)) (HA.out.stays (Stays.of_below HB3.out)) (modest_of hgo) (HT.out.below HB3.out) (vlen_of hgo) (by omega) (by have := hgo.len; omega))
    have HGO := Lib.hid hgo
    obtain ⟨R, hR⟩ : ∃ R, R = predN lib name kept args 400 := ⟨_, rfl⟩
    rw [← hR] at HP
    clear hg hgo
    go_wp2_with fail
    refine HP.out.mono ?_
    rintro e w4 ⟨a1, a2, c1, c2, rfl, hr1, hr2, hgar, hb4⟩
    have HR1 := Lib.hid hr1
    have HR2 := Lib.hid hr2
    have HB4 := Lib.hid hb4
    have HRR := Lib.hid hR
    clear hr1 hr2 hb4 hR HP
    have HB4W := Lib.hid (HB3.out.trans (HB4.out.mono HB3.out.size))
    have hgo := HGO.out
    by_cases h0 : R.err = 0
    case neg =>
      have hc : R.cnt = noCnt := by rw [HRR.out] at h0 ⊢; exact (pred_bad h0).1
      have e0 : (R.err != 0) = true := by simp [h0]
      have l1 : R.cnt.calls.length = 0 := by rw [hc]; rfl
      have l2 : R.cnt.kept.length = 0 := by rw [hc]; rfl
      rw [l1, l2]
      clear h0 hc l1 l2 HR1 HR2 HRR
      go_wp2
      go_ret
      exact ⟨rfl, bel_alloc HB4W.out⟩
    have e0 : (R.err != 0) = false := by simp [h0]
    have hr := HRR.out
    have hE : (predN lib name kept args 400).err = 0 := by rw [← hr]; exact h0
    have hT := (pred_total (vlen_of hgo) hE).2.1
    have l1 : R.cnt.calls.length = lib.length := by rw [hr]; exact hT.1
    have l2 : R.cnt.kept.length = lib.length := by rw [hr]; exact hT.2
    have HRT : Hid (∀ i, i < lib.length → ((at' lib i).name ∈ kept → at' R.cnt.calls i = if (at' lib i).name = name then 1 else 0) ∧ ((at' lib i).name ∉ kept → at' R.cnt.kept i = 0) ∧ ((at' lib i).name = name → 1 ≤ at' R.cnt.calls i) ∧ at' R.cnt.kept i % 2 = 0 ∧ 0 ≤ at' R.cnt.kept i ∧ 0 ≤ at' R.cnt.calls i) := Lib.hid (fun i hi => by rw [hr]; exact pred_root (vlen_of hgo) hE hi)
    have hv : (validE lib).2 = 0 := (pred_ok hE).1
    have HR1' := HR1.out
    have HR2' := HR2.out
    rw [l1] at HR1'
    rw [l2] at HR2'
    have HQ1 : Hid (RowsAt IntE Any w4 (.slice a1 lib.length c1) R.cnt.calls) := Lib.hid (HR1'.stays (stays_any (Below.refl _ _)))
    have HQ2 : Hid (RowsAt IntE Any w4 (.slice a2 lib.length c2) R.cnt.kept) := Lib.hid (HR2'.stays (stays_any (Below.refl _ _)))
    have HLEN := Lib.hid (And.intro l1 l2)
    rw [l1, l2]
    clear h0 hr hE hT l1 l2 HR1 HR2 HR1' HR2' hgo HRR
    obtain ⟨W, hW⟩ : ∃ W, W = w4.alloc (.cells #[.slice a1 lib.length c1, .slice a2 lib.length c2, .int .i64 R.gar] 29) := ⟨_, rfl⟩
    have hB4 : Below w4.heap.size w4 W := by subst hW; exact bel_alloc (Below.refl _ _)
    have HWW := Lib.hid (HB4W.out.trans (hB4.mono HB4W.out.size))
    have HXW : Hid (W.heap[w4.heap.size]? = some (.cells #[.slice a1 lib.length c1, .slice a2 lib.length c2, .int .i64 R.gar] 29 (0, 0))) := Lib.hid (by subst hW; exact at_new0 _ _)
    have HP1 := Lib.hid (HQ1.out.stays (Stays.of_below hB4))
    have HP2 := Lib.hid (HQ2.out.stays (Stays.of_below hB4))
    clear hB4 HQ1 HQ2
    subst hW
    go_wp2
    generalize w4.alloc (.cells #[.slice a1 lib.length c1, .slice a2 lib.length c2, .int .i64 R.gar] 29) = W at *
    go_loopw [55] (fun i wr => ∃ k : Nat, k ≤ lib.length ∧ i = .int .i64 k ∧ Below W.heap.size W wr) (fun i _ => lib.length - (intOf i).toNat)
    case atStart => exact ⟨0, Nat.zero_le _, rfl, Below.refl _ _⟩
    case round =>
      obtain ⟨k, hk, rfl, hbl⟩ := hrel
      have HBL := Lib.hid hbl
      by_cases hlt : k < lib.length
      · obtain ⟨b, off, cap, pa, pc, kka, kkc, he, hb, _, hAb, c0, c1', c2', c3, c4, c5, c6, hsn, hpar, hnd⟩ := (HL.out.stays (Stays.of_below (HWW.out.trans (hbl.mono HWW.out.size)))).at hlt
        simp only [Value.slice.injEq] at he
        obtain ⟨rfl, -, rfl⟩ := he
        obtain ⟨W2, hW2⟩ : ∃ W2, W2 = wr.alloc (.cells #[.string (at' lib k).name, .slice pa (at' lib k).params.length pc, .bool (at' lib k).list, .int .u8 (at' lib k).body.kind, .int .i64 (at' lib k).body.num, .string (at' lib k).body.name, .slice kka (at' lib k).body.kids.length kkc] 68) := ⟨_, rfl⟩
        have hB2 : Below W.heap.size W W2 := by subst hW2; exact bel_alloc hbl
        have HB2W := Lib.hid hB2
        have HF0 : Hid (W2.cell? ⟨wr.heap.size, 0, none⟩ = some (.string (at' lib k).name)) := Lib.hid (by subst hW2; exact cell_blk (at_new0 _ _) 0 rfl)
        obtain ⟨bq, oq, capq, heq, hbq, hcq, q0, q1⟩ := ints_at (show RowsAt IntE Any W2 (.slice a1 R.cnt.calls.length c1) R.cnt.calls by rw [HLEN.out.1]; exact HP1.out.stays (Stays.of_below hB2)) (j := k) (by rw [HLEN.out.1]; exact hlt)
        obtain ⟨bp, op, capp, hep, hbp, hcp, p0, p1⟩ := ints_at (show RowsAt IntE Any W2 (.slice a2 R.cnt.kept.length c2) R.cnt.kept by rw [HLEN.out.2]; exact HP2.out.stays (Stays.of_below hB2)) (j := k) (by rw [HLEN.out.2]; exact hlt)
        simp only [Value.slice.injEq] at heq hep
        obtain ⟨rfl, -, rfl⟩ := heq
        obtain ⟨rfl, -, rfl⟩ := hep
        obtain ⟨x0, x1, x2⟩ := cells3 (blk_below hB2 HXW.out)
        have f0 := HF0.out
        have hrt := HRT.out k hlt
        rw [at_nth, at_nth] at hrt
        have HIN : Hid (Calls Tryd.prog 23 #[.slice ka kept.length kc, .string (at' lib k).name] W2 fun e w' => e = .returned (.bool (inB kept (at' lib k).name)) ∧ W2 = w') := Lib.hid (in43_any _ kept (at' lib k).name Any W2 (HK.out.stays (Stays.of_below (HWW.out.trans (hB2.mono HWW.out.size)))))
        have hkb : inB kept (at' lib k).name = true ↔ (at' lib k).name ∈ kept := inB_mem
        have i0 : (0 : Int) ≤ (k : Int) := by omega
        have i1 : (k : Int) < (lib.length : Int) := by omega
        have hev : ((nth R.cnt.kept k).tmod 2 != 0) = false := by
          rw [Int.tmod_eq_emod_of_nonneg hrt.2.2.2.2.1, hrt.2.2.2.1]; rfl
        have hev2 : ((nth R.cnt.kept k) % 2 != 0) = false := by rw [hrt.2.2.2.1]; rfl
        clear hbl hB2 hpar hnd
        subst hW2
        by_cases hin : (at' lib k).name ∈ kept
        · have hB1 : inB kept (at' lib k).name = true := hkb.2 hin
          rw [hB1] at HIN
          have hc1 := hrt.1 hin
          by_cases hnm : (at' lib k).name = name
          · rw [if_pos hnm] at hc1
            have g1 : ((at' lib k).name.toList == name.toList) = true := by rw [hnm]; simp
            have g2 : ((at' lib k).name.toList != name.toList) = false := by rw [hnm]; simp
            have g3 : (nth R.cnt.calls k != 1) = false := by rw [hc1]; rfl
            have g4 : decide (nth R.cnt.calls k < 1) = false := by rw [hc1]; rfl
            clear hrt hc1 hnm hkb hB1 hin
            go_wp2_with fail
            repeat
              (refine HIN.out.mono ?_)
              (rintro e w9 ⟨rfl, rfl⟩)
              go_wp2_with fail
            go_roundw
            case rel => exact ⟨k + 1, by omega, by go_num, HB2W.out⟩
            case measure => simp [intOf]; omega
          · rw [if_neg hnm] at hc1
            have g1 : ((at' lib k).name.toList == name.toList) = false := beq_eq_false_iff_ne.2 (fun h => hnm (toList_inj h))
            have g2 : ((at' lib k).name.toList != name.toList) = true := by rw [bne, g1]; rfl
            have g3 : (nth R.cnt.calls k != 0) = false := by rw [hc1]; rfl
            clear hrt hc1 hnm hkb hB1 hin
            go_wp2_with fail
            repeat
              (refine HIN.out.mono ?_)
              (rintro e w9 ⟨rfl, rfl⟩)
              go_wp2_with fail
            go_roundw
            case rel => exact ⟨k + 1, by omega, by go_num, HB2W.out⟩
            case measure => simp [intOf]; omega
        · have hB1 : inB kept (at' lib k).name = false := by
            cases h : inB kept (at' lib k).name with
            | true => exact absurd (hkb.1 h) hin
            | false => rfl
          rw [hB1] at HIN
          have hc1 := hrt.2.1 hin
          have g3 : (nth R.cnt.kept k != 0) = false := by rw [hc1]; rfl
          by_cases hnm : (at' lib k).name = name
          · have g1 : ((at' lib k).name.toList == name.toList) = true := by rw [hnm]; simp
            have g2 : ((at' lib k).name.toList != name.toList) = false := by rw [hnm]; simp
            have hc2 := hrt.2.2.1 hnm
            have g4 : decide (nth R.cnt.calls k < 1) = false := decide_eq_false (by omega)
            clear hrt hc1 hc2 hnm hkb hB1 hin
            go_wp2_with fail
            repeat
              (refine HIN.out.mono ?_)
              (rintro e w9 ⟨rfl, rfl⟩)
              go_wp2_with fail
            go_roundw
            case rel => exact ⟨k + 1, by omega, by go_num, HB2W.out⟩
            case measure => simp [intOf]; omega
          · have g1 : ((at' lib k).name.toList == name.toList) = false := beq_eq_false_iff_ne.2 (fun h => hnm (toList_inj h))
            have g2 : ((at' lib k).name.toList != name.toList) = true := by rw [bne, g1]; rfl
            clear hrt hc1 hnm hkb hB1 hin
            go_wp2_with fail
            repeat
              (refine HIN.out.mono ?_)
              (rintro e w9 ⟨rfl, rfl⟩)
              go_wp2_with fail
            go_roundw
            case rel => exact ⟨k + 1, by omega, by go_num, HB2W.out⟩
            case measure => simp [intOf]; omega
      · have hlt' : ¬ (k : Int) < (lib.length : Int) := by omega
        clear hbl
        go_wp2
        go_ret
        exact ⟨rfl, HWW.out.trans (HBL.out.mono HWW.out.size)⟩
end Go.Proofs.YtehmmokkjojggaaDoor
