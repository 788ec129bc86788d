/- The law CostmodelFuel. -/
import Derived.Test.YtehmmokkjojggaaDoorCmF
namespace Go.Proofs.YtehmmokkjojggaaDoor
set_option linter.unusedVariables false
set_option linter.unusedSimpArgs false
open Go.RowKit

theorem pred_bad2 {lib : List Fn} {name : ByteArray} {kept : List ByteArray} {args : List Vl} {fuel : Int} (h : (predN lib name kept args fuel).err ≠ 0) : (predN lib name kept args fuel).cnt = noCnt ∧ (predN lib name kept args fuel).gar = 0 := by
  unfold predN at h ⊢
  by_cases h1 : (validE lib).2 ≠ 0
  · rw [if_pos h1]; exact ⟨rfl, rfl⟩
  rw [if_neg h1] at h ⊢
  by_cases h2 : findF lib name < 0 ∨ (∃ k ∈ kept, findF lib k < 0)
  · rw [if_pos h2]; exact ⟨rfl, rfl⟩
  rw [if_neg h2] at h ⊢
  by_cases h3 : ¬ kept.Nodup
  · rw [if_pos h3]; exact ⟨rfl, rfl⟩
  rw [if_neg h3] at h ⊢
  by_cases h4 : (startN lib name args fuel).err ≠ 0
  · rw [if_pos h4]; exact ⟨rfl, rfl⟩
  rw [if_neg h4] at h
  exact absurd rfl h
set_option maxRecDepth 100000 in set_option maxHeartbeats 3200000 in theorem walk_costmodelFuel (w : World) (ht : Tab w) (lv : Value) (lib : List Fn) (hl : FnsAt Any w lv lib) (name : ByteArray) (hn : name.size ≤ maxLen) (kv : Value) (kept : List ByteArray) (hk : StrsAt Any w kv kept) (av : Value) (args : List Vl) (ha : RowsAt VlE Any w av args) (mo : Int) (hmo : 0 ≤ mo ∧ mo ≤ 255) :
    Calls Tryd.prog 6 #[lv, .string name, kv, av, .int .u8 mo] w fun e w' => e = .returned (.bool true) ∧ Below w.heap.size w w' := by
  obtain ⟨hll, la, lc, rfl⟩ := hl.form
  obtain ⟨hkl, ka, kc, rfl⟩ := hk.form
  obtain ⟨hal, aa, ac, rfl⟩ := ha.form
  unfold maxLen at hll hkl hal
  have HT := Lib.hid ht
  have HL := Lib.hid hl
  have HK := Lib.hid hk
  have HA := Lib.hid ha
  clear ht hl hk ha
  go_enter Tryd.func6, Tryd.ntmps6
  go_wp2_with fail
  refine (awake_any _ HT.out).mono ?_
  rintro e w2 ⟨rfl, hb2⟩
  have HB2 := Lib.hid hb2
  go_wp2_with fail
  refine (great43_any _ lib ka kc kept aa ac args Any w2 (HL.out.stays (Stays.of_below hb2)) (HA.out.stays (Stays.of_below hb2))).mono ?_
  rintro e w3 ⟨b, rfl, hg, hb3⟩
  have HB3 := Lib.hid (hb2.trans (hb3.mono hb2.size))
  clear hb2 hb3
  cases b with
  | true =>
    go_wp2
    go_ret
    exact ⟨rfl, HB3.out⟩
  | false =>
    obtain ⟨hgo, hk10⟩ := hg rfl
    have HGO := Lib.hid hgo
    clear hg hgo
    have HB3' := HB3.out
    go_wp2
    go_loopw [11, 12] (fun r i wr => ∃ (k : Nat) (q : Int) (a : Option Addr) (c : Nat), k ≤ kept.length ∧ i = .int .i64 q ∧ q = (kept.length : Int) - 1 - k ∧ r = .slice a k c ∧ RowsOwn StrE 9 Any w3.heap.size wr (.slice a k c) (kept.reverse.take k) ∧ Below w3.heap.size w3 wr) (fun _ i _ => (intOf i + 1).toNat)
    case atStart => exact ⟨0, _, none, 0, Nat.zero_le _, rfl, by simp, rfl, RowsOwn.nil _ _ _ _ _, Below.refl _ _⟩
    case round =>
      obtain ⟨k, q, ra, rc, hk, rfl, hq, rfl, hrow, hbl⟩ := hrel
      have HBL := Lib.hid hbl
      have HROW := Lib.hid hrow
      by_cases hlt : k < kept.length
      · obtain ⟨p, rfl⟩ : ∃ p : Nat, q = (p : Int) := ⟨kept.length - 1 - k, by omega⟩
        have hp : p < kept.length := by omega
        obtain ⟨b, off, cap, he, hb, _, _, c0, hsn⟩ := (HK.out.stays (Stays.of_below (HB3.out.trans (hbl.mono HB3.out.size)))).at hp
        simp only [Value.slice.injEq] at he
        obtain ⟨rfl, -, rfl⟩ := he
        have HN1 := Lib.hid (names_add hrow hsn)
        have hrl : k < kept.reverse.length := by simpa using hlt
        have HTK : Hid (kept.reverse.take (k + 1) = kept.reverse.take k ++ [at' kept p]) := Lib.hid (by
          rw [List.take_succ_eq_append_getElem hrl, List.getElem_reverse, at_eq hp]
          congr 3
          omega)
        have HSZ1 : Hid (w3.heap.size ≤ (wr.alloc (.cells #[.string (at' kept p)] 9)).heap.size) := Lib.hid (bel_alloc (x := .cells #[.string (at' kept p)] 9) hbl).size
        have hlk : (kept.reverse.take k).length = k := by simp; omega
        have HLK := Lib.hid hlk
        have i0 : (0 : Int) ≤ (p : Int) := by omega
        have i1 : (p : Int) < (kept.length : Int) := by omega
        have hmea : ((p : Int) - 1 + 1).toNat < ((p : Int) + 1).toNat := by omega
        have HME := Lib.hid hmea
        have HQ := Lib.hid hq
        clear hrow hbl hrl hlk hmea hq
        go_wp2_with (at_builtin; refine wpl_rows TStr rfl (by decide) rfl (.tmp 30) (.tmp 35) rfl rfl rfl HN1.out.1 HN1.out.2.1 HN1.out.2.2 (by rw [HLK.out]; simp; unfold maxLen; omega) (by rw [HLK.out]; simp; omega) HSZ1.out ?_; intro a5 e5 w5 h5 hg5 hn5; rw [HLK.out] at h5; have HW6 := Lib.hid ((bel_alloc (x := .cells #[.string (at' kept p)] 9) HBL.out).grown hg5 HSZ1.out (fun j e => (HN1.out.1.lt e).1)); have HO2 := Lib.hid h5; clear h5 hg5 hn5)
        go_roundw
        case rel => exact ⟨k + 1, (p : Int) - 1, _, _, by omega, by go_num, by have := HQ.out; push_cast; omega, rfl, by rw [HTK.out]; exact HO2.out, HW6.out⟩
        case measure => simp [intOf]
      · obtain rfl : k = kept.length := by omega
        obtain rfl : q = -1 := by omega
        have HWR := Lib.hid (HB3.out.trans (hbl.mono HB3.out.size))
        have hgo := HGO.out
        have hback : StrsAt Any wr (.slice ra kept.length rc) kept.reverse := by
          have := names_shut hrow (by simp; omega)
          rwa [List.take_of_length_le (by simp)] at this
        have hml : kept.reverse.length = kept.length := by simp
        have hln := hgo.len
        have hp1 := predict_any la lc lib name ka kc kept aa ac args (400 - mo) Any wr (HL.out.stays (Stays.of_below HWR.out)) (HK.out.stays (Stays.of_below HWR.out)) (HA.out.stays (Stays.of_below HWR.out)) (modest_of hgo) (HT.out.below HWR.out) (vlen_of hgo) (by omega) (by omega)
        have hp2 : ∀ w1, Below wr.heap.size wr w1 → Calls Tryd.prog 11 #[.slice la lib.length lc, .string name, .slice ra kept.length rc, .slice aa args.length ac, .int .i64 400] w1 (PrPost (predN lib name kept.reverse args 400) w1) := fun w1 h1 => by
          have h := predict_any la lc lib name ra rc kept.reverse aa ac args 400 Any w1 (HL.out.stays (Stays.of_below (HWR.out.trans (h1.mono HWR.out.size)))) (by rw [hml]; exact hback.stays (Stays.of_below h1)) (HA.out.stays (Stays.of_below (HWR.out.trans (h1.mono HWR.out.size)))) (modest_of hgo) (HT.out.below (HWR.out.trans (h1.mono HWR.out.size))) (vlen_of hgo) (by omega) (by omega)
          rwa [hml] at h
        obtain ⟨R, hR⟩ : ∃ R, R = predN lib name kept args (400 - mo) := ⟨_, rfl⟩
        obtain ⟨S, hS⟩ : ∃ S, S = predN lib name kept.reverse args 400 := ⟨_, rfl⟩
        rw [← hR] at hp1
        rw [← hS] at hp2
        have HSR : Hid (R.err ≠ 18 → S = R) := Lib.hid (fun h => by rw [hR] at h ⊢; rw [hS]; exact pred_fuel (by omega) (by omega) h)
        have HLN : Hid (R.cnt.calls.length ≤ 1000000 ∧ R.cnt.kept.length ≤ 1000000) := Lib.hid (by
          by_cases h0 : R.err = 0
          · rw [hR] at h0 ⊢
            have hl := (pred_total (vlen_of hgo) h0).2.1
            have h1 := hl.1
            have h2 := hl.2
            exact ⟨by omega, by omega⟩
          · rw [hR] at h0 ⊢
            rw [(pred_bad2 h0).1]
            exact ⟨by decide, by decide⟩)
        have HP1 := Lib.hid hp1
        have HP2 := Lib.hid hp2
        have hmw : IntKind.i64.wrap (400 - mo) = 400 - mo := by rw [IntKind.wrap_i64]; omega
        clear hp1 hp2 hR hS hgo hback hml hrow hbl hlt
        go_wp2_with fail
        refine HP1.out.mono ?_
        rintro e w5 ⟨a1, a2, c1, c2, rfl, hr1, hr2, hgar, hb5⟩
        have HR1 := Lib.hid hr1
        have HR2 := Lib.hid hr2
        have HB5 := Lib.hid hb5
        have hb6 : Below wr.heap.size wr (w5.alloc (.cells #[.slice a1 R.cnt.calls.length c1, .slice a2 R.cnt.kept.length c2, .int .i64 R.gar] 29)) := bel_alloc HB5.out
        clear hr1 hr2 hb5 HP1
        go_wp2_with fail
        refine (HP2.out _ hb6).mono ?_
        rintro e w7 ⟨b1, b2, d1, d2, rfl, hs1, hs2, hgar2, hb7⟩
        obtain ⟨V, hV⟩ : ∃ V, V = w7.alloc (.cells #[.slice b1 S.cnt.calls.length d1, .slice b2 S.cnt.kept.length d2, .int .i64 S.gar] 29) := ⟨_, rfl⟩
        have hb57 : Below w5.heap.size w5 w7 := (bel_alloc (x := .cells #[.slice a1 R.cnt.calls.length c1, .slice a2 R.cnt.kept.length c2, .int .i64 R.gar] 29) (Below.refl w5.heap.size w5)).trans (hb7.mono (bel_alloc (x := .cells #[.slice a1 R.cnt.calls.length c1, .slice a2 R.cnt.kept.length c2, .int .i64 R.gar] 29) (Below.refl w5.heap.size w5)).size)
        have hb5V : Below w5.heap.size w5 V := by subst hV; exact bel_alloc hb57
        have hb7V : Below w7.heap.size w7 V := by subst hV; exact bel_alloc (Below.refl _ _)
        have HWV := Lib.hid (HB5.out.trans (hb5V.mono HB5.out.size))
        have HF : Hid (∀ w1, Below V.heap.size V w1 → Below w.heap.size w w1) := Lib.hid (fun w1 h => (HWR.out.trans (HWV.out.mono HWR.out.size)).trans (h.mono (HWR.out.trans (HWV.out.mono HWR.out.size)).size))
        by_cases h18 : R.err = 18
        · have e18 : (R.err == 18) = true := by simp [h18]
          clear h18 hs1 hs2 hb6 hb7 hb57 hb5V hb7V HP2
          subst hV
          go_wp2
          go_ret
          exact ⟨rfl, HF.out _ (Below.refl _ _)⟩
        · have e18 : (R.err == 18) = false := by simp [h18]
          have hsr := HSR.out h18
          subst hsr
          have HXR := Lib.hid (blk_below hb7V (blk_below hb7 (at_new0 w5 (.cells #[.slice a1 S.cnt.calls.length c1, .slice a2 S.cnt.kept.length c2, .int .i64 S.gar] 29))))
          have HXS : Hid (V.heap[w7.heap.size]? = some (.cells #[.slice b1 S.cnt.calls.length d1, .slice b2 S.cnt.kept.length d2, .int .i64 S.gar] 29 (0, 0))) := Lib.hid (by subst hV; exact at_new0 _ _)
          have HI1 : Hid (∀ w1, Below V.heap.size V w1 → Calls Tryd.prog 18 #[.slice a1 S.cnt.calls.length c1, .slice b1 S.cnt.calls.length d1] w1 fun e w' => e = .returned (.bool true) ∧ Below w1.heap.size w1 w') := Lib.hid (fun w1 h => by
            have h5 := ints43_any _ _ S.cnt.calls S.cnt.calls w1 (ints_of ((HR1.out.stays (stays_any hb5V)).stays (Stays.of_below h)) HLN.out.1) (ints_of ((hs1.stays (stays_any hb7V)).stays (Stays.of_below h)) HLN.out.1)
            simpa using h5)
          have HI2 : Hid (∀ w1, Below V.heap.size V w1 → Calls Tryd.prog 18 #[.slice a2 S.cnt.kept.length c2, .slice b2 S.cnt.kept.length d2] w1 fun e w' => e = .returned (.bool true) ∧ Below w1.heap.size w1 w') := Lib.hid (fun w1 h => by
            have h5 := ints43_any _ _ S.cnt.kept S.cnt.kept w1 (ints_of ((HR2.out.stays (stays_any hb5V)).stays (Stays.of_below h)) HLN.out.2) (ints_of ((hs2.stays (stays_any hb7V)).stays (Stays.of_below h)) HLN.out.2)
            simpa using h5)
          have HXX : Hid (∀ w1, Below V.heap.size V w1 → w1.cell? ⟨w5.heap.size, 0, none⟩ = some (.slice a1 S.cnt.calls.length c1) ∧ w1.cell? ⟨w5.heap.size, 1, none⟩ = some (.slice a2 S.cnt.kept.length c2) ∧ w1.cell? ⟨w5.heap.size, 2, none⟩ = some (.int .i64 S.gar) ∧ w1.cell? ⟨w7.heap.size, 0, none⟩ = some (.slice b1 S.cnt.calls.length d1) ∧ w1.cell? ⟨w7.heap.size, 1, none⟩ = some (.slice b2 S.cnt.kept.length d2) ∧ w1.cell? ⟨w7.heap.size, 2, none⟩ = some (.int .i64 S.gar)) := Lib.hid (fun w1 h => by
            obtain ⟨y0, y1, y2⟩ := cells3 (blk_below h HXR.out)
            obtain ⟨z0, z1, z2⟩ := cells3 (blk_below h HXS.out)
            exact ⟨y0, y1, y2, z0, z1, z2⟩)
          obtain ⟨y0, y1, y2, z0, z1, z2⟩ := HXX.out V (Below.refl _ _)
          have see : (S.err == S.err) = true := by simp
          have sgg : (S.gar == S.gar) = true := by simp
          clear h18 hs1 hs2 hb6 hb7 hb57 hb5V hb7V HP2
          subst hV
          go_wp2_with fail
          generalize w7.alloc (.cells #[.slice b1 S.cnt.calls.length d1, .slice b2 S.cnt.kept.length d2, .int .i64 S.gar] 29) = V at *
          refine (HI1.out _ (by (repeat (with_reducible first | exact Below.refl _ _ | refine bel_drew ?_ | refine bel_alloc ?_ | (apply bel_step; focus assumption))))).mono ?_
          rintro e w11 ⟨rfl, hb11⟩
          obtain ⟨y0, y1, y2, z0, z1, z2⟩ := HXX.out w11 hb11
          go_wp2_with fail
          refine (HI2.out _ (by (repeat (with_reducible first | exact Below.refl _ _ | refine bel_drew ?_ | refine bel_alloc ?_ | (apply bel_step; focus assumption))))).mono ?_
          rintro e w12 ⟨rfl, hb12⟩
          have hw12 : Below V.heap.size V w12 := (by (repeat (with_reducible first | exact Below.refl _ _ | refine bel_drew ?_ | refine bel_alloc ?_ | (apply bel_step; focus assumption))))
          obtain ⟨y0, y1, y2, z0, z1, z2⟩ := HXX.out w12 hw12
          go_wp2
          go_ret
          exact ⟨rfl, HF.out _ hw12⟩
end Go.Proofs.YtehmmokkjojggaaDoor
