/- The law CostmodelExtremes. -/
import Derived.Test.YtehmmokkjojggaaDoorCmF
import Derived.Test.YtehmmokkjojggaaDoorCmB
namespace Go.Proofs.YtehmmokkjojggaaDoor
set_option linter.unusedVariables false
set_option linter.unusedSimpArgs false
open Go.RowKit

theorem names_add2 {B g : Nat} {w W : World} {a : Option Addr} {n c : Nat} {l : List ByteArray} {x : ByteArray} (h : RowsOwn StrE 9 Any B w (.slice a n c) l) (hx : x.size ≤ maxLen) (hb : Below w.heap.size w W) (hg : W.heap[g]? = some (.cells #[.string x] 9 (0, 0))) (hl : w.heap.size ≤ g) :
    RowsOwn StrE 9 Any B W (.slice a n c) l ∧ RowsAt StrE (fun b => b = g) W (.slice (some ⟨g, 0, none⟩) 1 1) [x] ∧ ∀ b, b < W.heap.size → b = g → Any b ∧ (Value.slice a n c).ownBlock ≠ some b :=
  ⟨h.below hb, rows_1 (E := StrE) hg rfl rfl ⟨rfl, hx⟩, fun b _ e => ⟨trivial, fun e2 => by have := (h.lt e2).2; omega⟩⟩
set_option maxRecDepth 100000 in set_option maxHeartbeats 3200000 in theorem walk_costmodelExtremes (w : World) (ht : Tab w) (lv : Value) (lib : List Fn) (hl : FnsAt Any w lv lib) (name : ByteArray) (hn : name.size ≤ maxLen) (av : Value) (args : List Vl) (ha : RowsAt VlE Any w av args) :
    Calls Tryd.prog 8 #[lv, .string name, av] w fun e w' => e = .returned (.bool true) ∧ Below w.heap.size w w' := by
  obtain ⟨hll, la, lc, rfl⟩ := hl.form
  obtain ⟨hal, aa, ac, rfl⟩ := ha.form
  unfold maxLen at hll hal
  have HT := Lib.hid ht
  have HL := Lib.hid hl
  have HA := Lib.hid ha
  clear ht hl ha
  go_enter Tryd.func8, Tryd.ntmps8
  go_wp2_with fail
  refine (awake_any _ HT.out).mono ?_
  rintro e w2 ⟨rfl, hb2⟩
  have HB2 := Lib.hid hb2
  go_wp2_with fail
  refine (great43_any _ lib none 0 [] aa ac args Any w2 (HL.out.stays (Stays.of_below hb2)) (HA.out.stays (Stays.of_below hb2))).mono ?_
  rintro e w3 ⟨b, rfl, hg, hb3⟩
  have HB3 := Lib.hid (hb2.trans (hb3.mono hb2.size))
  clear hb2 hb3
  cases b with
  | true =>
    go_wp2
    go_ret
    exact ⟨rfl, HB3.out⟩
  | false =>
    obtain ⟨hgo, hk10⟩ := hg rfl
    have HTC := Lib.hid (trace_any la lc lib name aa ac args Any w3 400 (HL.out.stays (Stays.of_below HB3.out)) (modest_of hgo) (HA.out.stays (Stays.of_below HB3.out)) (vlen_of hgo) (by omega))
    have HGO := Lib.hid hgo
    obtain ⟨X, hX⟩ : ∃ X, X = startN lib name args 400 := ⟨_, rfl⟩
    rw [← hX] at HTC
    clear hg hgo
    go_wp2_with fail
    refine HTC.out.mono ?_
    rintro e w4 ⟨f0, x1, n1, k1, xb, xn, x3, m3, k3, x5, n5, k5, rfl, htr, hb4⟩
    have hbw : Below w.heap.size w w4 := HB3.out.trans (hb4.mono HB3.out.size)
    have HB4W := Lib.hid hbw
    by_cases h0 : X.err = 0
    case neg =>
      have e0 : (X.err != 0) = true := by simp [h0]
      clear h0 htr hb4 hX HTC
      go_wp2
      go_ret
      exact ⟨rfl, bel_alloc (x := .cells #[.int .i64 f0, .slice x1 n1 k1, .bool xb, .int .i64 xn, .slice x3 m3 k3, .slice x5 n5 k5] 43) HB4W.out⟩
    have e0 : (X.err != 0) = false := by simp [h0]
    obtain ⟨rfl, rfl, rfl, rfl, rfl, rfl, htv⟩ := trv_of (htr h0)
    have hE : (startN lib name args 400).err = 0 := by rw [← hX]; exact h0
    have hv : (validE lib).2 = 0 := by
      by_cases q : (validE lib).2 = 0
      · exact q
      · exfalso
        unfold startN at hE
        rw [if_pos q] at hE
        exact absurd hE (by simp)
    have hgo := HGO.out
    have hst := start_tree hv (vlen_of hgo) hE
    rw [← hX] at hst
    have HPN := Lib.hid (pred_none (vlen_of hgo) hv hE)
    have HPA := Lib.hid (pred_all (vlen_of hgo) hv hE)
    rw [← hX] at HPN HPA
    have HST := Lib.hid (And.intro hst.2.2.2.1 (stepsT_pos X.tree))
    obtain ⟨W, hW⟩ : ∃ W, W = w4.alloc (.cells #[.int .i64 X.tree.f, .slice x1 X.tree.args.length k1, .bool X.tree.res.list, .int .i64 X.tree.res.n, .slice x3 X.tree.res.l.length k3, .slice x5 X.tree.calls.length k5] 43) := ⟨_, rfl⟩
    have hB4 : Below w4.heap.size w4 W := by subst hW; exact bel_alloc (Below.refl _ _)
    have HWW := Lib.hid (hbw.trans (hB4.mono hbw.size))
    have HXW : Hid (W.heap[w4.heap.size]? = some (.cells #[.int .i64 X.tree.f, .slice x1 X.tree.args.length k1, .bool X.tree.res.list, .int .i64 X.tree.res.n, .slice x3 X.tree.res.l.length k3, .slice x5 X.tree.calls.length k5] 43 (0, 0))) := Lib.hid (by subst hW; exact at_new0 _ _)
    have HTV := Lib.hid (htv.stays (stays_any hB4))
    have HWS : Hid (W.heap.size = w4.heap.size + 1) := Lib.hid (by subst hW; simp)
    clear h0 htr hb4 hX HTC hE hst htv hB4 hbw
    subst hW
    go_wp2
    generalize w4.alloc (.cells #[.int .i64 X.tree.f, .slice x1 X.tree.args.length k1, .bool X.tree.res.list, .int .i64 X.tree.res.n, .slice x3 X.tree.res.l.length k3, .slice x5 X.tree.calls.length k5] 43) = W at *
    have hln := hgo.len
    clear hgo hv
    go_loopw [9, 32] (fun r i wr => ∃ (k : Nat) (a : Option Addr) (c : Nat), k ≤ lib.length ∧ i = .int .i64 k ∧ r = .slice a k c ∧ RowsOwn StrE 9 Any W.heap.size wr (.slice a k c) ((lib.take k).map (·.name)) ∧ wr.heap[w4.heap.size]? = some (.cells #[.int .i64 X.tree.f, .slice x1 X.tree.args.length k1, .bool X.tree.res.list, .int .i64 X.tree.res.n, .slice x3 X.tree.res.l.length k3, .slice x5 X.tree.calls.length k5] 43 (0, 0)) ∧ Below W.heap.size W wr) (fun _ i _ => lib.length - (intOf i).toNat)
    case atStart => exact ⟨0, none, 0, Nat.zero_le _, rfl, rfl, RowsOwn.nil _ _ _ _ _, HXW.out, Below.refl _ _⟩
    case round =>
      obtain ⟨k, ra, rc, hk, rfl, rfl, hrow, hbx, hbl⟩ := hrel
      have HBL := Lib.hid hbl
      have HROW := Lib.hid hrow
      have HBX := Lib.hid hbx
      by_cases hlt : k < lib.length
      · obtain ⟨b, off, cap, pa, pc, kka, kkc, he, hb, _, hAb, c0, c1', c2', c3, c4, c5, c6, hsn, hpar, hnd⟩ := (HL.out.stays (Stays.of_below (HWW.out.trans (hbl.mono HWW.out.size)))).at hlt
        simp only [Value.slice.injEq] at he
        obtain ⟨rfl, -, rfl⟩ := he
        have HN1 := Lib.hid (names_add2 (g := wr.heap.size + 1) hrow hsn (bel_alloc (bel_alloc (x := .cells #[.string (at' lib k).name, .slice pa (at' lib k).params.length pc, .bool (at' lib k).list, .int .u8 (at' lib k).body.kind, .int .i64 (at' lib k).body.num, .string (at' lib k).body.name, .slice kka (at' lib k).body.kids.length kkc] 68) (Below.refl wr.heap.size wr))) (at_new wr (.cells #[.string (at' lib k).name, .slice pa (at' lib k).params.length pc, .bool (at' lib k).list, .int .u8 (at' lib k).body.kind, .int .i64 (at' lib k).body.num, .string (at' lib k).body.name, .slice kka (at' lib k).body.kids.length kkc] 68) (.cells #[.string (at' lib k).name] 9)) (by omega))
        have HBN : Hid (Below W.heap.size W ((wr.alloc (.cells #[.string (at' lib k).name, .slice pa (at' lib k).params.length pc, .bool (at' lib k).list, .int .u8 (at' lib k).body.kind, .int .i64 (at' lib k).body.num, .string (at' lib k).body.name, .slice kka (at' lib k).body.kids.length kkc] 68)).alloc (.cells #[.string (at' lib k).name] 9))) := Lib.hid (bel_alloc (bel_alloc hbl))
        have HTK : Hid ((lib.take (k + 1)).map (·.name) = (lib.take k).map (·.name) ++ [(at' lib k).name]) := Lib.hid (by rw [List.take_succ_eq_append_getElem hlt, List.map_append, at_eq hlt]; rfl)
        have HSZ1 : Hid (W.heap.size ≤ ((wr.alloc (.cells #[.string (at' lib k).name, .slice pa (at' lib k).params.length pc, .bool (at' lib k).list, .int .u8 (at' lib k).body.kind, .int .i64 (at' lib k).body.num, .string (at' lib k).body.name, .slice kka (at' lib k).body.kids.length kkc] 68)).alloc (.cells #[.string (at' lib k).name] 9)).heap.size) := Lib.hid HBN.out.size
        have HBX1 : Hid (((wr.alloc (.cells #[.string (at' lib k).name, .slice pa (at' lib k).params.length pc, .bool (at' lib k).list, .int .u8 (at' lib k).body.kind, .int .i64 (at' lib k).body.num, .string (at' lib k).body.name, .slice kka (at' lib k).body.kids.length kkc] 68)).alloc (.cells #[.string (at' lib k).name] 9)).heap[w4.heap.size]? = some (.cells #[.int .i64 X.tree.f, .slice x1 X.tree.args.length k1, .bool X.tree.res.list, .int .i64 X.tree.res.n, .slice x3 X.tree.res.l.length k3, .slice x5 X.tree.calls.length k5] 43 (0, 0))) := Lib.hid (blk_alloc (blk_alloc hbx))
        have hlk : ((lib.take k).map (·.name)).length = k := by simp; omega
        have HLK := Lib.hid hlk
        clear hrow hbx hbl hpar hnd
        go_wp2_with (at_builtin; refine wpl_rows TStr rfl (by decide) rfl (.tmp 36) (.tmp 39) rfl rfl rfl HN1.out.1 HN1.out.2.1 HN1.out.2.2 (by rw [HLK.out]; simp; unfold maxLen; omega) (by rw [HLK.out]; simp; omega) HSZ1.out ?_; intro a5 e5 w5 h5 hg5 hn5; rw [HLK.out] at h5; have HW6 := Lib.hid (HBN.out.grown hg5 HBN.out.size (fun j e => (HN1.out.1.lt e).1)); have HX6 := Lib.hid (blk_grown HN1.out.1 hg5 HBX1.out (by have := HWS.out; omega)); have HO2 := Lib.hid h5; clear h5 hg5 hn5)
        go_roundw
        case rel => exact ⟨k + 1, _, _, by omega, by go_num, rfl, by rw [HTK.out]; exact HO2.out, HX6.out, HW6.out⟩
        case measure => simp [intOf]; omega
      · obtain rfl : k = lib.length := by omega
        have hlt' : ¬ (lib.length : Int) < (lib.length : Int) := by omega
        have HWR := Lib.hid (HWW.out.trans (hbl.mono HWW.out.size))
        have hgo := HGO.out
        have hall : StrsAt Any wr (.slice ra lib.length rc) (lib.map (·.name)) := by
          have := names_shut hrow (by simp; omega)
          rwa [List.take_length] at this
        have hml : (lib.map (·.name)).length = lib.length := by simp
        have hp1 := predict_any la lc lib name none 0 [] aa ac args 400 Any wr (HL.out.stays (Stays.of_below HWR.out)) (RowsAt.nil StrE _ _) (HA.out.stays (Stays.of_below HWR.out)) (modest_of hgo) (HT.out.below HWR.out) (vlen_of hgo) (by omega) (by omega)
        have hp2 : ∀ w1, Below wr.heap.size wr w1 → Calls Tryd.prog 11 #[.slice la lib.length lc, .string name, .slice ra lib.length rc, .slice aa args.length ac, .int .i64 400] w1 (PrPost (predN lib name (lib.map (·.name)) args 400) w1) := fun w1 h1 => by
          have h := predict_any la lc lib name ra rc (lib.map (·.name)) aa ac args 400 Any w1 (HL.out.stays (Stays.of_below (HWR.out.trans (h1.mono HWR.out.size)))) (by rw [hml]; exact hall.stays (Stays.of_below h1)) (HA.out.stays (Stays.of_below (HWR.out.trans (h1.mono HWR.out.size)))) (modest_of hgo) (HT.out.below (HWR.out.trans (h1.mono HWR.out.size))) (vlen_of hgo) (by omega) (by omega)
          rwa [hml] at h
        obtain ⟨R, hR⟩ : ∃ R, R = predN lib name [] args 400 := ⟨_, rfl⟩
        obtain ⟨S, hS⟩ : ∃ S, S = predN lib name (lib.map (·.name)) args 400 := ⟨_, rfl⟩
        have hn := HPN.out
        have hm := HPA.out
        have hnn := pred_nn (kept := []) (vlen_of hgo) (by omega) hn.1
        have hmm := pred_nn (kept := lib.map (·.name)) (vlen_of hgo) (by omega) hm.1
        rw [← hR] at hp1 hn hnn
        rw [← hS] at hp2 hm hmm
        have HP1 := Lib.hid hp1
        have HP2 := Lib.hid hp2
        have HNN := Lib.hid (And.intro hn hnn)
        have HMM := Lib.hid (And.intro hm hmm)
        have HTW := Lib.hid (HTV.out.stays (Stays.of_below hbl))
        clear hp1 hp2 hn hm hnn hmm hR hS hgo hall hml hrow hbx hbl hlt HPN HPA
        go_wp2_with fail
        refine HP1.out.mono ?_
        rintro e w5 ⟨a1, a2, c1, c2, rfl, hr1, hr2, hgar, hb5⟩
        have HR1 := Lib.hid hr1
        have HR2 := Lib.hid hr2
        have HB5 := Lib.hid hb5
        clear hr1 hr2 hb5 HP1
        go_wp2_with fail
        have hb6 : Below wr.heap.size wr (w5.alloc (.cells #[.slice a1 R.cnt.calls.length c1, .slice a2 R.cnt.kept.length c2, .int .i64 R.gar] 29)) := bel_alloc HB5.out
        have HB6 := Lib.hid hb6
        refine (HP2.out _ hb6).mono ?_
        rintro e w7 ⟨b1, b2, d1, d2, rfl, hs1, hs2, hgar2, hb7⟩
        obtain ⟨V, hV⟩ : ∃ V, V = w7.alloc (.cells #[.slice b1 S.cnt.calls.length d1, .slice b2 S.cnt.kept.length d2, .int .i64 S.gar] 29) := ⟨_, rfl⟩
        have hb57 : Below w5.heap.size w5 w7 := (bel_alloc (x := .cells #[.slice a1 R.cnt.calls.length c1, .slice a2 R.cnt.kept.length c2, .int .i64 R.gar] 29) (Below.refl w5.heap.size w5)).trans (hb7.mono (bel_alloc (x := .cells #[.slice a1 R.cnt.calls.length c1, .slice a2 R.cnt.kept.length c2, .int .i64 R.gar] 29) (Below.refl w5.heap.size w5)).size)
        have hb5V : Below w5.heap.size w5 V := by subst hV; exact bel_alloc hb57
        have hb7V : Below w7.heap.size w7 V := by subst hV; exact bel_alloc (Below.refl _ _)
        have HWV := Lib.hid (HB5.out.trans (hb5V.mono HB5.out.size))
        have HF : Hid (∀ w1, Below V.heap.size V w1 → Below w.heap.size w w1) := Lib.hid (fun w1 h => (HWR.out.trans (HWV.out.mono HWR.out.size)).trans (h.mono (HWR.out.trans (HWV.out.mono HWR.out.size)).size))
        have HXT := Lib.hid (blk_below HWV.out HBX.out)
        have HXR := Lib.hid (blk_below hb7V (blk_below hb7 (at_new0 w5 (.cells #[.slice a1 R.cnt.calls.length c1, .slice a2 R.cnt.kept.length c2, .int .i64 R.gar] 29))))
        have HXS : Hid (V.heap[w7.heap.size]? = some (.cells #[.slice b1 S.cnt.calls.length d1, .slice b2 S.cnt.kept.length d2, .int .i64 S.gar] 29 (0, 0))) := Lib.hid (by subst hV; exact at_new0 _ _)
        have HRV := Lib.hid (And.intro (HR1.out.stays (stays_any hb5V)) (HR2.out.stays (stays_any hb5V)))
        have HSV := Lib.hid (And.intro (hs1.stays (stays_any hb7V)) (hs2.stays (stays_any hb7V)))
        have HTT := Lib.hid (HTW.out.stays (Stays.of_below HWV.out))
        obtain ⟨⟨er, tr, gr⟩, n1, n2, n3⟩ := HNN.out
        obtain ⟨⟨es, ts⟩, m1, m2, m3⟩ := HMM.out
        have hst := HST.out
        have tr2 : sumI R.cnt.calls + sumI R.cnt.kept = powT X.tree 1 := tr
        have ts2 : sumI S.cnt.calls + sumI S.cnt.kept = 2 * stepsT X.tree - 1 := ts
        have HTR : Hid (∀ w1, Below V.heap.size V w1 → Calls Tryd.prog 20 #[.agg #[.slice a1 R.cnt.calls.length c1, .slice a2 R.cnt.kept.length c2, .int .i64 R.gar]] w1 fun e w' => e = .returned (.int .i64 (powT X.tree 1)) ∧ Below w1.heap.size w1 w') := Lib.hid (fun w1 h => by
          have h5 := total_any a1 a2 c1 c2 R.cnt.calls R.cnt.kept R.gar Any w1 (HRV.out.1.stays (Stays.of_below h)) (HRV.out.2.stays (Stays.of_below h)) n1 n2 n3
          rwa [tr2] at h5)
        have HTS : Hid (∀ w1, Below V.heap.size V w1 → Calls Tryd.prog 20 #[.agg #[.slice b1 S.cnt.calls.length d1, .slice b2 S.cnt.kept.length d2, .int .i64 S.gar]] w1 fun e w' => e = .returned (.int .i64 (2 * stepsT X.tree - 1)) ∧ Below w1.heap.size w1 w') := Lib.hid (fun w1 h => by
          have h5 := total_any b1 b2 d1 d2 S.cnt.calls S.cnt.kept S.gar Any w1 (HSV.out.1.stays (Stays.of_below h)) (HSV.out.2.stays (Stays.of_below h)) m1 m2 m3
          rwa [ts2] at h5)
        have HPW : Hid (∀ w1, Below V.heap.size V w1 → Calls Tryd.prog 24 #[.agg #[.int .i64 X.tree.f, .slice x1 X.tree.args.length k1, .bool X.tree.res.list, .int .i64 X.tree.res.n, .slice x3 X.tree.res.l.length k3, .slice x5 X.tree.calls.length k5], .int .i64 1] w1 fun e w' => e = .returned (.int .i64 (powT X.tree 1)) ∧ Below w1.heap.size w1 w') := Lib.hid (fun w1 h => powers_any ((stepsT X.tree).toNat + 1) X.tree x1 x3 x5 k1 k3 k5 1 Any w1 (by omega) (by omega) (by omega) (HTT.out.stays (Stays.of_below h)))
        have HSP : Hid (∀ w1, Below V.heap.size V w1 → Calls Tryd.prog 25 #[.agg #[.int .i64 X.tree.f, .slice x1 X.tree.args.length k1, .bool X.tree.res.list, .int .i64 X.tree.res.n, .slice x3 X.tree.res.l.length k3, .slice x5 X.tree.calls.length k5]] w1 fun e w' => e = .returned (.int .i64 (stepsT X.tree)) ∧ Below w1.heap.size w1 w') := Lib.hid (fun w1 h => steps_any ((stepsT X.tree).toNat + 1) X.tree x1 x3 x5 k1 k3 k5 Any w1 (by omega) (by omega) (HTT.out.stays (Stays.of_below h)))
        have HXX : Hid (∀ w1, Below V.heap.size V w1 → w1.cell? ⟨w4.heap.size, 0, none⟩ = some (.int .i64 X.tree.f) ∧ w1.cell? ⟨w4.heap.size, 1, none⟩ = some (.slice x1 X.tree.args.length k1) ∧ w1.cell? ⟨w4.heap.size, 2, none⟩ = some (.bool X.tree.res.list) ∧ w1.cell? ⟨w4.heap.size, 3, none⟩ = some (.int .i64 X.tree.res.n) ∧ w1.cell? ⟨w4.heap.size, 4, none⟩ = some (.slice x3 X.tree.res.l.length k3) ∧ w1.cell? ⟨w4.heap.size, 5, none⟩ = some (.slice x5 X.tree.calls.length k5) ∧ w1.cell? ⟨w5.heap.size, 0, none⟩ = some (.slice a1 R.cnt.calls.length c1) ∧ w1.cell? ⟨w5.heap.size, 1, none⟩ = some (.slice a2 R.cnt.kept.length c2) ∧ w1.cell? ⟨w5.heap.size, 2, none⟩ = some (.int .i64 R.gar) ∧ w1.cell? ⟨w7.heap.size, 0, none⟩ = some (.slice b1 S.cnt.calls.length d1) ∧ w1.cell? ⟨w7.heap.size, 1, none⟩ = some (.slice b2 S.cnt.kept.length d2) ∧ w1.cell? ⟨w7.heap.size, 2, none⟩ = some (.int .i64 S.gar)) := Lib.hid (fun w1 h => by
          obtain ⟨x0, x1, x2, x3, x4, x5⟩ := cells6 (blk_below h HXT.out)
          obtain ⟨y0, y1, y2⟩ := cells3 (blk_below h HXR.out)
          obtain ⟨z0, z1, z2⟩ := cells3 (blk_below h HXS.out)
          exact ⟨x0, x1, x2, x3, x4, x5, y0, y1, y2, z0, z1, z2⟩)
        have g1 : (R.err == 0) = true := by simp [er]
        have g2 : (S.err == 0) = true := by simp [es]
        have g3 : (R.gar == 0) = true := by simp [gr]
        generalize powT X.tree 1 = P at *
        have q1 : IntKind.i64.wrap (2 * stepsT X.tree) = 2 * stepsT X.tree := by rw [IntKind.wrap_i64]; omega
        have q2 : IntKind.i64.wrap (2 * stepsT X.tree - 1) = 2 * stepsT X.tree - 1 := by rw [IntKind.wrap_i64]; omega
        generalize stepsT X.tree = Q at *
        clear er tr gr n1 n2 n3 es ts m1 m2 m3 hst tr2 ts2 hs1 hs2 hb6 hb7 hb57 hb5V hb7V HNN HMM HST HP2
        obtain ⟨u0, u1, u2, u3, u4, u5, y0, y1, y2, z0, z1, z2⟩ := HXX.out V (Below.refl _ _)
        subst hV
        go_wp2
        generalize w7.alloc (.cells #[.slice b1 S.cnt.calls.length d1, .slice b2 S.cnt.kept.length d2, .int .i64 S.gar] 29) = V at *
        go_region_held3 (fun w1 => w1.cell? ⟨w4.heap.size, 0, none⟩ = some (.int .i64 X.tree.f) ∧ w1.cell? ⟨w4.heap.size, 1, none⟩ = some (.slice x1 X.tree.args.length k1) ∧ w1.cell? ⟨w4.heap.size, 2, none⟩ = some (.bool X.tree.res.list) ∧ w1.cell? ⟨w4.heap.size, 3, none⟩ = some (.int .i64 X.tree.res.n) ∧ w1.cell? ⟨w4.heap.size, 4, none⟩ = some (.slice x3 X.tree.res.l.length k3) ∧ w1.cell? ⟨w4.heap.size, 5, none⟩ = some (.slice x5 X.tree.calls.length k5) ∧ w1.cell? ⟨w5.heap.size, 0, none⟩ = some (.slice a1 R.cnt.calls.length c1) ∧ w1.cell? ⟨w5.heap.size, 1, none⟩ = some (.slice a2 R.cnt.kept.length c2) ∧ w1.cell? ⟨w5.heap.size, 2, none⟩ = some (.int .i64 R.gar) ∧ w1.cell? ⟨w7.heap.size, 0, none⟩ = some (.slice b1 S.cnt.calls.length d1) ∧ w1.cell? ⟨w7.heap.size, 1, none⟩ = some (.slice b2 S.cnt.kept.length d2) ∧ w1.cell? ⟨w7.heap.size, 2, none⟩ = some (.int .i64 S.gar)) (with_reducible exact HXX.out _ (by (repeat (with_reducible first | exact Below.refl _ _ | refine bel_drew ?_ | refine bel_alloc ?_ | (apply bel_step; focus assumption)))))
          (first
          | (go_at_call 20; (with_reducible refine (HTR.out _ (by (repeat (with_reducible first | exact Below.refl _ _ | refine bel_drew ?_ | refine bel_alloc ?_ | (apply bel_step; focus assumption))))).mono ?_); rintro e w11 ⟨rfl, hb11⟩)
          | (go_at_call 24; (with_reducible refine (HPW.out _ (by (repeat (with_reducible first | exact Below.refl _ _ | refine bel_drew ?_ | refine bel_alloc ?_ | (apply bel_step; focus assumption))))).mono ?_); rintro e w12 ⟨rfl, hb12⟩)
          | (go_at_call 20; (with_reducible refine (HTS.out _ (by (repeat (with_reducible first | exact Below.refl _ _ | refine bel_drew ?_ | refine bel_alloc ?_ | (apply bel_step; focus assumption))))).mono ?_); rintro e w13 ⟨rfl, hb13⟩)
          | (go_at_call 25; (with_reducible refine (HSP.out _ (by (repeat (with_reducible first | exact Below.refl _ _ | refine bel_drew ?_ | refine bel_alloc ?_ | (apply bel_step; focus assumption))))).mono ?_); rintro e w14 ⟨rfl, hb14⟩))
        all_goals
          go_wp2
          go_ret
          exact ⟨rfl, HF.out _ (by (repeat (with_reducible first | exact Below.refl _ _ | refine bel_drew ?_ | refine bel_alloc ?_ | (apply bel_step; focus assumption))))⟩
end Go.Proofs.YtehmmokkjojggaaDoor
