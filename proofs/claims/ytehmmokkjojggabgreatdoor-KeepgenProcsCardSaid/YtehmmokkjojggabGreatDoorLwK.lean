/- The law KeepgenProcs. -/
import Derived.Test.YtehmmokkjojggabGreatDoorKgD
import Derived.Test.YtehmmokkjojggabGreatDoorKgJ
import Derived.Test.YtehmmokkjojggabGreatDoorKgM
import Derived.Test.YtehmmokkjojggabGreatDoorKgN
import Derived.Test.YtehmmokkjojggabGreatDoorKgQ
import Derived.Test.YtehmmokkjojggabGreatDoorPPrc
namespace Go.Proofs.YtehmmokkjojggabGreatDoor
set_option linter.unusedVariables false
set_option linter.unusedSimpArgs false
open Go.RowKit

theorem at_map_normK (lib : List Fn) {i : Nat} (hi : i < lib.length) : at' (normL lib) i = normF lib (at' lib i) := by
  simp [at', normL, List.getD_eq_getElem?_getD, List.getElem?_map, List.getElem?_eq_getElem hi]
theorem keptF_one (kept : List ByteArray) (nm : ByteArray) : (keptF kept nm).2.length ≤ 1 := by unfold keptF; split <;> simp
theorem spill_size (t : Par) : sizeN (spillN t) ≤ 3 := by
  unfold spillN
  split
  · rw [size_call]; simp
  · rw [size_node]; simp only [sizeL, size_v]; omega
theorem spills_size : ∀ ts : List Par, sizeL (ts.map spillN) ≤ 3 * ts.length
  | [] => by simp [sizeL]
  | t :: r => by have := spills_size r; have := spill_size t; simp only [List.map_cons, sizeL, List.length_cons]; omega
theorem procK_size (g : AFn) (kept : List ByteArray) (hz : sizeBs g.body ≤ 10000) (ht : g.temps.length ≤ 4000) : sizeN (procK g kept) ≤ 1000000 := by
  have h1 := bindsN_size (keptF kept) 1 (keptF_one kept) g.body
  have h3 := locals_size g.temps (blockN (bindsN (keptF kept) g.body ++ [resultN g] ++ g.temps.map spillN))
  have h4 := result_size g
  have h5 := spills_size g.temps
  rw [size_block, sizeL_append, sizeL_append] at h3
  simp only [sizeL] at h3
  unfold procK
  omega
/-- the statements so far -/
def LwI (W : World) (l : List Nd) (s : Value) (wx : World) : Prop := ∃ (a : Option Addr) (c : Nat), s = .slice a l.length c ∧ RowsOwn NdE 35 (Up W.heap.size) W.heap.size wx (.slice a l.length c) l ∧ Below W.heap.size W wx
theorem lwi_app {W w5 Wx w4 : World} {l : List Nd} {x : Nd} {a a2 : Option Addr} {c c2 : Nat} (h5 : RowsOwn NdE 35 (Up W.heap.size) W.heap.size w5 (.slice a l.length c) l) (hb : Below W.heap.size W w5) (hW : Below w5.heap.size w5 Wx)
    (hg : Wx.grownBy w4 (Value.slice a l.length c).ownBlock) (h4 : RowsOwn NdE 35 (Up W.heap.size) W.heap.size w4 (.slice a2 (l.length + 1) c2) (l ++ [x])) : LwI W (l ++ [x]) (.slice a2 (l.length + 1) c2) w4 := by
  have e : (l ++ [x]).length = l.length + 1 := by simp
  have hbW := hb.trans (hW.mono hb.size)
  exact ⟨a2, c2, by rw [e], by rw [e]; exact h4, hbW.grown hg hbW.size (fun j e => (h5.lt e).1)⟩
theorem app_oneq {B q : Nat} {w5 w6 : World} {a : Option Addr} {n c : Nat} {l : List Nd} {x0 x1 x2 x3 : Value} {x : Nd} (hq : q = w6.heap.size) (h : RowsOwn NdE 35 (Up B) B w5 (.slice a n c) l) (hb : Below w5.heap.size w5 w6) (hB : B ≤ w5.heap.size) (hk : NdAt (Up w5.heap.size) w6 (.agg #[x0, x1, x2, x3]) x) :
    RowsOwn NdE 35 (Up B) B (w6.alloc (.cells #[x0, x1, x2, x3] 35)) (.slice a n c) l ∧ RowsAt NdE (Up w5.heap.size) (w6.alloc (.cells #[x0, x1, x2, x3] 35)) (.slice (some ⟨q, 0, none⟩) 1 1) [x] ∧ ∀ b, b < (w6.alloc (.cells #[x0, x1, x2, x3] 35)).heap.size → Up w5.heap.size b → Up B b ∧ (Value.slice a n c).ownBlock ≠ some b := by
  subst hq
  exact app_one h hb hB hk
set_option maxRecDepth 100000 in
set_option maxHeartbeats 12800000 in
theorem walk_keepgenProcs (w : World) (ht : Tab w) (lv : Value) (lib : List Fn) (hl : FnsAt Any w lv lib) (k : Int) (hk : 0 ≤ k ∧ k ≤ 255) (kv : Value) (kept : List ByteArray) (hkt : StrsAt Any w kv kept) (hks : ∀ s ∈ kept, s.size ≤ 140737488355328) :
    Calls Tryz.prog 7 #[lv, .int .u8 k, kv] w fun e w' => e = .returned (.bool true) ∧ Below w.heap.size w w' := by
  obtain ⟨hll, la, lc, rfl⟩ := hl.form
  obtain ⟨hkl, ka, kc, rfl⟩ := hkt.form
  unfold maxLen at hkl
  have HAW := Lib.hid (awake41_any w ht)
  have HNM : Hid (∀ w1, Below w.heap.size w w1 → Calls Tryz.prog 27 #[.slice la lib.length lc] w1 (Normal41 lib w1)) := Lib.hid (fun w1 h => normal41_any _ lib Any w1 (hl.stays (Stays.of_below h)) (ht.below h))
  have HKT := Lib.hid hkt
  clear hl ht hkt
  go_enter Tryz.func7, Tryz.ntmps7
  go_wp2_with fail
  refine HAW.out.mono ?_
  rintro e w0 ⟨rfl, hb0⟩
  go_wp2_with fail
  refine (HNM.out _ hb0).mono ?_
  intro e w1 hp1
  have hb1 : Below w.heap.size w w1 := hb0.trans (hp1.1.mono hb0.size)
  have HB1 := Lib.hid hb1
  clear HAW HNM hb0
  rcases hp1.2 with ⟨xa, xn, xc, rfl⟩ | ⟨xa, xc, rfl, hso, hafn⟩
  · clear hp1
    go_wp2
    go_ret
    exact ⟨rfl, HB1.out⟩
  · have HSO := Lib.hid hso
    have HAF := Lib.hid hafn
    clear hp1 hso hafn hb1
    by_cases h0 : (normL lib).length = 0
    · have d0 : (((normL lib).length : Int) == 0) = true := by simp [h0]
      go_wp2
      go_ret
      exact ⟨rfl, HB1.out⟩
    · have d0 : (((normL lib).length : Int) == 0) = false := by simp [h0]
      by_cases h10 : 10 < kept.length
      · have d10 : decide ((10 : Int) < (kept.length : Int)) = true := by simp; omega
        go_wp2
        go_ret
        exact ⟨rfl, HB1.out⟩
      · have d10 : decide ((10 : Int) < (kept.length : Int)) = false := by simp; omega
        have hnlen : (normL lib).length = lib.length := by simp [normL]
        have hkm : (k % (lib.length : Int)).toNat < (normL lib).length := by
          have := Int.emod_lt_of_pos k (b := (lib.length : Int)) (by omega)
          omega
        have hkn : (0 : Int) ≤ k % (lib.length : Int) ∧ k % (lib.length : Int) < (lib.length : Int) := ⟨Int.emod_nonneg _ (by omega), Int.emod_lt_of_pos k (by omega)⟩
        have d0' : ((lib.length : Int) == 0) = false := by rw [← hnlen]; exact d0
        have ht : k.tmod (lib.length : Int) = k % (lib.length : Int) := Int.tmod_eq_emod_of_nonneg hk.1
        have hi : (k % (lib.length : Int)).toNat < lib.length := by have := hkn; omega
        have hat : at' (normL lib) (k % (lib.length : Int)).toNat = normF lib (at' lib (k % (lib.length : Int)).toNat) := at_map_normK lib hi
        have HGD : Hid (sizeBs (at' (normL lib) (k % (lib.length : Int)).toNat).body ≤ 10000 ∧ (at' (normL lib) (k % (lib.length : Int)).toNat).temps.length ≤ 4000 ∧ (at' (normL lib) (k % (lib.length : Int)).toNat).params.length ≤ 8 ∧ (at' (normL lib) (k % (lib.length : Int)).toNat).name.size ≤ 140737488355328) := Lib.hid (by
          rw [hat]
          obtain ⟨g1, g2, g3⟩ := norm_good HSO.out.2 hi
          have hb := HSO.out.1.bod _ hi
          have hnm := HSO.out.1.nam _ hi
          exact ⟨by omega, by omega, g1.plen, Nat.le_trans (show (normF lib (at' lib (k % (lib.length : Int)).toNat)).name.size ≤ 40 from hnm) (by omega)⟩)
        clear hi hat
        have hl6 := HSO.out.1.len
        obtain ⟨b, off, cap, pa, pc, ta, tc, ba, bc, he, hb, hcap, c0, c1, c2, c3, c4, c5, hps, htm, hbd, hsn, hsr⟩ := afn_at HAF.out hkm
        simp only [Value.slice.injEq] at he
        obtain ⟨rfl, -, rfl⟩ := he
        have HBD := Lib.hid hbd
        have HPS := Lib.hid hps
        have HTM := Lib.hid htm
        have HSR := Lib.hid hsr
        clear hps htm hbd hsr
        generalize hg : at' (normL lib) (k % (lib.length : Int)).toNat = g at c0 c1 c2 c3 c4 c5 hsn HBD HPS HTM HSR HGD
        rw [hnlen] at hcap
        have HWF : Hid (∀ w', Below (w1.alloc (.cells #[.string g.name, .slice pa g.params.length pc, .bool g.list, .slice ta g.temps.length tc, .slice ba g.body.length bc, .string g.result] 31)).heap.size (w1.alloc (.cells #[.string g.name, .slice pa g.params.length pc, .bool g.list, .slice ta g.temps.length tc, .slice ba g.body.length bc, .string g.result] 31)) w' → w'.cell? ⟨w1.heap.size, 0, none⟩ = some (.string g.name) ∧ w'.cell? ⟨w1.heap.size, 1, none⟩ = some (.slice pa g.params.length pc) ∧ w'.cell? ⟨w1.heap.size, 2, none⟩ = some (.bool g.list) ∧ w'.cell? ⟨w1.heap.size, 3, none⟩ = some (.slice ta g.temps.length tc) ∧ w'.cell? ⟨w1.heap.size, 4, none⟩ = some (.slice ba g.body.length bc) ∧ w'.cell? ⟨w1.heap.size, 5, none⟩ = some (.string g.result)) := Lib.hid (fun w' h => cells6 (blk_below h (at_new0 w1 (.cells #[.string g.name, .slice pa g.params.length pc, .bool g.list, .slice ta g.temps.length tc, .slice ba g.body.length bc, .string g.result] 31))))
        have hb1W : Below w1.heap.size w1 (w1.alloc (.cells #[.string g.name, .slice pa g.params.length pc, .bool g.list, .slice ta g.temps.length tc, .slice ba g.body.length bc, .string g.result] 31)) := bel_alloc (Below.refl _ _)
        have HBW : Hid (Below w.heap.size w (w1.alloc (.cells #[.string g.name, .slice pa g.params.length pc, .bool g.list, .slice ta g.temps.length tc, .slice ba g.body.length bc, .string g.result] 31))) := Lib.hid (HB1.out.trans (hb1W.mono HB1.out.size))
        have HB1W := Lib.hid hb1W
        have HCO : Hid (Calls Tryz.prog 28 #[.agg #[.string g.name, .slice pa g.params.length pc, .bool g.list, .slice ta g.temps.length tc, .slice ba g.body.length bc, .string g.result], .slice ka kept.length kc] (w1.alloc (.cells #[.string g.name, .slice pa g.params.length pc, .bool g.list, .slice ta g.temps.length tc, .slice ba g.body.length bc, .string g.result] 31)) fun e w' => ∃ (a : Option Addr) (c : Nat) (za : Option Addr) (zn zc : Nat), e = .returned (.tuple #[.slice a (bindsN (keptF kept) g.body ++ [resultN g]).length c, .agg #[.int .u8 57, .int .i64 0, .string ⟨#[]⟩, .slice za zn zc], .bool true]) ∧ RowsOwn NdE 35 (Up (w1.alloc (.cells #[.string g.name, .slice pa g.params.length pc, .bool g.list, .slice ta g.temps.length tc, .slice ba g.body.length bc, .string g.result] 31)).heap.size) (w1.alloc (.cells #[.string g.name, .slice pa g.params.length pc, .bool g.list, .slice ta g.temps.length tc, .slice ba g.body.length bc, .string g.result] 31)).heap.size w' (.slice a (bindsN (keptF kept) g.body ++ [resultN g]).length c) (bindsN (keptF kept) g.body ++ [resultN g]) ∧ Below (w1.alloc (.cells #[.string g.name, .slice pa g.params.length pc, .bool g.list, .slice ta g.temps.length tc, .slice ba g.body.length bc, .string g.result] 31)).heap.size (w1.alloc (.cells #[.string g.name, .slice pa g.params.length pc, .bool g.list, .slice ta g.temps.length tc, .slice ba g.body.length bc, .string g.result] 31)) w') := Lib.hid (computed_T g pa ta ba pc tc bc ka kc kept _ (HBD.out.stays (Stays.of_below hb1W)) HSR.out HGD.out.1 (HKT.out.stays (Stays.of_below HBW.out)) hks)
        have HL0 : Hid ((bindsN (keptF kept) g.body ++ [resultN g]).length ≤ 20001) := Lib.hid (by have := bindsN_len (keptF kept) g.body; have := len_sizeBs g.body; have := HGD.out.1; simp; omega)
        have HPK : Hid (∀ LL, LL = (bindsN (keptF kept) g.body ++ [resultN g]) ++ g.temps.map spillN → procK g kept = localsN g.temps (blockN LL)) := Lib.hid (fun LL h => by rw [h, procK])
        generalize bindsN (keptF kept) g.body ++ [resultN g] = L0 at *
        clear hb1W
        generalize hWW : w1.alloc (.cells #[.string g.name, .slice pa g.params.length pc, .bool g.list, .slice ta g.temps.length tc, .slice ba g.body.length bc, .string g.result] 31) = W at *
        have hWs : W.heap.size = w1.heap.size + 1 := by rw [← hWW]; simp
        have HWS := Lib.hid hWs
        obtain ⟨f0, f1, f2, f3, f4, f5⟩ := HWF.out W (Below.refl _ _)
        go_wp2_with (go_at_call 28; refine HCO.out.mono ?_; rintro e w3 ⟨ia, ic, za, zn, zc, rfl, hi3, hb3⟩; have hbx : Below W.heap.size W (w3.alloc (.cells #[.int .u8 57, .int .i64 0, .string ⟨#[]⟩, .slice za zn zc] 35)) := bel_alloc hb3; have HI3 := Lib.hid (hi3.below (bel_alloc (x := .cells #[.int .u8 57, .int .i64 0, .string ⟨#[]⟩, .slice za zn zc] 35) (Below.refl _ _))); obtain ⟨f0, f1, f2, f3, f4, f5⟩ := HWF.out _ hbx; clear hi3)
        have HI0 : Hid (LwI W (L0 ++ (g.temps.take 0).map spillN) (.slice ia L0.length ic) (w3.alloc (.cells #[.int .u8 57, .int .i64 0, .string ⟨#[]⟩, .slice za zn zc] 35))) := Lib.hid (by rw [List.take_zero, List.map_nil, List.append_nil]; exact ⟨ia, ic, rfl, HI3.out, hbx⟩)
        have HTC : Hid (∀ w', Below W.heap.size W w' → ParsAt Any w' (.slice ta g.temps.length tc) g.temps) := Lib.hid (fun w' h => (HTM.out.stays (Stays.of_below HB1W.out)).stays (Stays.of_below h))
        have htl := HGD.out.2.1
        clear hb3 hbx HI3 HCO hWW f0 f1 f2 f3 f4 f5
        go_loopw [10, 57] (fun v i wr => ∃ k : Nat, k ≤ g.temps.length ∧ i = .int .i64 k ∧ LwI W (L0 ++ (g.temps.take k).map spillN) v wr) (fun _ i _ => g.temps.length - (intOf i).toNat)
        case atStart => exact ⟨0, Nat.zero_le _, rfl, HI0.out⟩
        case round =>
          obtain ⟨k, hk, rfl, ja, jc, rfl, hI, hBk⟩ := hrel
          have HIK := Lib.hid hI
          have HBK := Lib.hid hBk
          have hlk : (L0 ++ (g.temps.take k).map spillN).length ≤ 25000 := by have := HL0.out; simp; omega
          by_cases hlt : k < g.temps.length
          · obtain ⟨b, off, cap, he, hb, _, _, c0, c1, hsn⟩ := (HTC.out _ hBk).at hlt
            simp only [Value.slice.injEq] at he
            obtain ⟨rfl, -, rfl⟩ := he
            have HNX : Hid (L0 ++ (g.temps.take (k + 1)).map spillN = (L0 ++ (g.temps.take k).map spillN) ++ [spillN (at' g.temps k)]) := Lib.hid (by rw [List.take_succ_eq_append_getElem hlt, List.map_append, at_eq hlt, List.append_assoc]; rfl)
            have hmea : g.temps.length - (k + 1) < g.temps.length - k := by omega
            have HME := Lib.hid hmea
            have HSN := Lib.hid hsn
            generalize hLL : L0 ++ (g.temps.take k).map spillN = LL at *
            clear hI hBk hmea hLL
            cases hli : (at' g.temps k).list with
            | true =>
              rw [hli] at c1
              have HSP : Hid (spillN (at' g.temps k) = callN ⟨#[108, 115, 112, 105, 108, 108]⟩ [(at' g.temps k).name, ⟨#[103]⟩]) := Lib.hid (by unfold spillN; rw [if_pos hli])
              clear hli
              go_wp2_with (first
                | (at_builtin; refine wpl_rows TNd rfl (by decide) rfl (.tmp 63) (.tmp 70) rfl rfl rfl HA6.out.1 HA6.out.2.1 HA6.out.2.2 (by simp; unfold maxLen; omega) (by simp; omega) (Nat.le_trans HBK.out.size (bel_alloc (x := (.cells #[.int .u8 50, .int .i64 0, .string ⟨#[108, 115, 112, 105, 108, 108]⟩, .slice (some ⟨w6.heap.size, 0, none⟩) 2 2] 35)) HW6.out).size) ?_; intro a7 c7 w7 h7 hg7 hn7; have HI7 := Lib.hid (lwi_app HIK.out HBK.out (bel_alloc HW6.out) hg7 h7); clear h7 hg7 hn7)
                | (go_at_call 29; (with_reducible refine (leaf_T (at' g.temps k).name _).mono ?_); rintro e w5 ⟨rfl, hb5⟩)
                | (go_at_call 29; (with_reducible refine (leaf_T ⟨#[103]⟩ _).mono ?_); rintro e w6 ⟨rfl, hb6⟩; have HW6 : Hid (Below wr.heap.size wr (w6.alloc (.cells #[.int .u8 2, .int .i64 0, .string (at' g.temps k).name, .slice none 0 0, .int .u8 2, .int .i64 0, .string ⟨#[103]⟩, .slice none 0 0] 35))) := Lib.hid (by (repeat (with_reducible first | exact Below.refl _ _ | refine bel_drew ?_ | refine bel_alloc ?_ | (apply bel_step; focus assumption)))); have hwr6 : Below wr.heap.size wr w6 := (by (repeat (with_reducible first | exact Below.refl _ _ | refine bel_drew ?_ | refine bel_alloc ?_ | (apply bel_step; focus assumption)))); have HA6 := Lib.hid (app_oneq (q := w6.heap.size + 1) (x0 := .int .u8 50) (x1 := .int .i64 0) (x2 := .string ⟨#[108, 115, 112, 105, 108, 108]⟩) (x3 := .slice (some ⟨w6.heap.size, 0, none⟩) 2 2) (by simp) HIK.out HW6.out HBK.out.size (nd_node (k := 50) (kids_2 (A := Up wr.heap.size) (blk_new rfl) hwr6.size (nd_v HSN.out) (nd_v (s := ⟨#[103]⟩) (by unfold maxLen; decide))) (by omega) (by unfold maxLen; decide)))))
              go_roundw
              case rel => exact ⟨k + 1, by omega, by go_num, by rw [HNX.out, HSP.out]; exact HI7.out⟩
              case measure => simp [intOf]; omega
            | false =>
              rw [hli] at c1
              have HSP : Hid (spillN (at' g.temps k) = nodeN 44 ⟨#[103]⟩ [vN (at' g.temps k).name]) := Lib.hid (by unfold spillN; rw [hli]; rfl)
              clear hli
              go_wp2_with (first
                | (at_builtin; refine wpl_rows TNd rfl (by decide) rfl (.tmp 72) (.tmp 78) rfl rfl rfl HA6.out.1 HA6.out.2.1 HA6.out.2.2 (by simp; unfold maxLen; omega) (by simp; omega) (Nat.le_trans HBK.out.size (bel_alloc (x := (.cells #[.int .u8 44, .int .i64 0, .string ⟨#[103]⟩, .slice (some ⟨w5.heap.size, 0, none⟩) 1 1] 35)) HW6.out).size) ?_; intro a7 c7 w7 h7 hg7 hn7; have HI7 := Lib.hid (lwi_app HIK.out HBK.out (bel_alloc HW6.out) hg7 h7); clear h7 hg7 hn7)
                | (go_at_call 29; refine (leaf_T (at' g.temps k).name _).mono ?_; rintro e w5 ⟨rfl, hb5⟩; have HW6 : Hid (Below wr.heap.size wr (w5.alloc (.cells #[.int .u8 2, .int .i64 0, .string (at' g.temps k).name, .slice none 0 0] 35))) := Lib.hid (by (repeat (with_reducible first | exact Below.refl _ _ | refine bel_drew ?_ | refine bel_alloc ?_ | (apply bel_step; focus assumption)))); have hwr6 : Below wr.heap.size wr w5 := (by (repeat (with_reducible first | exact Below.refl _ _ | refine bel_drew ?_ | refine bel_alloc ?_ | (apply bel_step; focus assumption)))); have HA6 := Lib.hid (app_oneq (q := w5.heap.size + 1) (x0 := .int .u8 44) (x1 := .int .i64 0) (x2 := .string ⟨#[103]⟩) (x3 := .slice (some ⟨w5.heap.size, 0, none⟩) 1 1) (by simp) HIK.out HW6.out HBK.out.size (nd_node (k := 44) (kids_1 (A := Up wr.heap.size) (blk_new rfl) hwr6.size (nd_v HSN.out)) (by omega) (by unfold maxLen; decide)))))
              go_roundw
              case rel => exact ⟨k + 1, by omega, by go_num, by rw [HNX.out, HSP.out]; exact HI7.out⟩
              case measure => simp [intOf]; omega
          · obtain rfl : k = g.temps.length := by omega
            have hlt' : ¬ (g.temps.length : Int) < (g.temps.length : Int) := by omega
            obtain ⟨LL, hLL⟩ : ∃ LL, LL = L0 ++ (g.temps.take g.temps.length).map spillN := ⟨_, rfl⟩
            rw [← hLL] at HIK hlk ⊢
            have HPN : Hid (procK g kept = localsN g.temps (blockN LL)) := Lib.hid (HPK.out LL (by rw [hLL, List.take_length]))
            clear hI hLL HI0 HPK HL0
            obtain ⟨f0, f1, f2, f3, f4, f5⟩ := HWF.out wr hBk
            have HPO := Lib.hid (params_O g pa ta ba pc tc bc wr ((HPS.out.stays (Stays.of_below HB1W.out)).stays (Stays.of_below hBk)) (by have := HGD.out.2.2.1; omega))
            have HFK := Lib.hid (⟨HGD.out.1, HGD.out.2.1, HGD.out.2.2.1, HGD.out.2.2.2⟩ : sizeBs g.body ≤ 10000 ∧ g.temps.length ≤ 4000 ∧ g.params.length ≤ 8 ∧ g.name.size ≤ 140737488355328)
            have hcat : ¬ 9223372036854775807 < g.name.size + 1 := by have := HGD.out.2.2.2; omega
            have HCT := Lib.hid hcat
            have HSZ : Hid (sizeN (procK g kept) ≤ 1000000) := Lib.hid (procK_size g kept HFK.out.1 HFK.out.2.1)
            obtain ⟨M, hM⟩ := locals_block g.temps LL
            have HPM : Hid (procK g kept = blockN M) := Lib.hid (by rw [HPN.out, hM])
            have HMM : Hid (localsN g.temps (blockN LL) = blockN M) := Lib.hid hM
            clear hM
            obtain ⟨LE, hLE⟩ : ∃ LE, LE = limE (paramsK g).length (blockN M) := ⟨_, rfl⟩
            have HLE := Lib.hid hLE
            have HKP : Hid (∀ w', Below W.heap.size W w' → Calls Tryz.prog 30 #[.agg #[.string g.name, .slice pa g.params.length pc, .bool g.list, .slice ta g.temps.length tc, .slice ba g.body.length bc, .string g.result], .slice ka kept.length kc] w' (fun e w'' => ∃ xa xc ya yc, e = .returned (.tuple #[if LE = 0 then .agg #[.string (g.name ++ ⟨#[49]⟩), .slice xa ((paramsN g).length + 1) xc, .int .u8 57, .int .i64 0, .string ⟨#[]⟩, .slice ya M.length yc] else .agg #[.string ⟨#[]⟩, .slice none 0 0, .int .u8 0, .int .i64 0, .string ⟨#[]⟩, .slice none 0 0], .int .i64 LE]) ∧ PrOk w'' (paramsK g) (blockN M) xa xc ya yc ∧ Below w'.heap.size w' w'')) := Lib.hid (fun w' h =>
              (kproc_K g pa ta ba pc tc bc ka kc kept w' ((HPS.out.stays (Stays.of_below HB1W.out)).stays (Stays.of_below h)) (HTC.out _ h) ((HBD.out.stays (Stays.of_below HB1W.out)).stays (Stays.of_below h)) HSR.out HFK.out.2.2.2 HFK.out.1 HFK.out.2.1 HFK.out.2.2.1 HSZ.out (HKT.out.stays (Stays.of_below (HBW.out.trans (h.mono HBW.out.size)))) hks).mono fun e w'' ⟨xa, xc, ya, yn, yc, he, hv, hn, hb⟩ => by
                rw [HPM.out] at he hn
                obtain ⟨_, a', c', e'⟩ := (ndKids hn).form
                simp only [Value.slice.injEq] at e'
                obtain ⟨rfl, rfl, rfl⟩ := e'
                rw [← hLE, paramsK_len] at he
                exact ⟨xa, xc, ya, yc, he, ⟨hv, hn⟩, hb⟩)
            have HWR : Hid (∀ w', Below W.heap.size W w' → (RowsOwn NdE 35 (Up W.heap.size) W.heap.size w' (.slice ja LL.length jc) LL) → Calls Tryz.prog 32 #[.agg #[.string g.name, .slice pa g.params.length pc, .bool g.list, .slice ta g.temps.length tc, .slice ba g.body.length bc, .string g.result], .slice ja LL.length jc] w' (fun e w'' => ∃ ya yc, e = .returned (.agg #[.int .u8 57, .int .i64 0, .string ⟨#[]⟩, .slice ya M.length yc]) ∧ NdAt Any w'' (.agg #[.int .u8 57, .int .i64 0, .string ⟨#[]⟩, .slice ya M.length yc]) (blockN M) ∧ Below w'.heap.size w' w'')) := Lib.hid (fun w' h ho =>
              (wrapped_T g pa ta ba pc tc bc ja jc LL w' (HTC.out _ h) (kids_rows.2 (ho.shut (fun _ _ => trivial) (fun _ _ => trivial) (by unfold maxLen; omega))) (by have := HFK.out.2.1; omega)).mono fun e w'' ⟨a, n, c, he, hn, hb⟩ => by
                rw [HMM.out] at hn
                obtain ⟨_, a', c', e'⟩ := (ndKids hn).form
                simp only [Value.slice.injEq] at e'
                obtain ⟨rfl, rfl, rfl⟩ := e'
                exact ⟨a, c, he, hn, hb⟩)
            have HWR : Hid (∀ w', Below wr.heap.size wr w' → Calls Tryz.prog 32 #[.agg #[.string g.name, .slice pa g.params.length pc, .bool g.list, .slice ta g.temps.length tc, .slice ba g.body.length bc, .string g.result], .slice ja LL.length jc] w' (fun e w'' => ∃ ya yc, e = .returned (.agg #[.int .u8 57, .int .i64 0, .string ⟨#[]⟩, .slice ya M.length yc]) ∧ NdAt Any w'' (.agg #[.int .u8 57, .int .i64 0, .string ⟨#[]⟩, .slice ya M.length yc]) (blockN M) ∧ Below w'.heap.size w' w'')) := Lib.hid (fun w' h => HWR.out w' (HBK.out.trans (h.mono HBK.out.size)) (HIK.out.below h))
            have hpn : (paramsN g).length ≤ 9 := by have := HFK.out.2.2.1; simp [paramsN]; omega
            clear hLE hBk HPN HMM HGD
            go_wp2_with fail
            refine HPO.out.mono ?_
            rintro e w4 ⟨a4, c4, rfl, hv4, hb4⟩
            have HO4 := Lib.hid (hv4.below (bel_alloc (x := (.cells #[.string ⟨#[103]⟩, .int .u8 3, .int .i64 0] 59)) (Below.refl _ _)))
            have HG4 : Hid (RowsAt DclE (fun b => b = w4.heap.size) (w4.alloc (.cells #[.string ⟨#[103]⟩, .int .u8 3, .int .i64 0] 59)) (.slice (some ⟨w4.heap.size, 0, none⟩) 1 1) [⟨⟨#[103]⟩, 3⟩]) := Lib.hid (dcl_g (at_new0 w4 _) rfl)
            have HB4 := Lib.hid hb4
            have HL4 : Hid (∀ b, b = w4.heap.size → (Value.slice a4 (paramsN g).length c4).ownBlock ≠ some b) := Lib.hid (fun b e e2 => by have h := (hv4.lt e2).2; omega)
            clear hv4 hb4
            go_wp2_with (at_builtin; (refine wpl_rows TDcl rfl (by decide) rfl (.tmp 82) (.tmp 84) rfl rfl rfl HO4.out HG4.out (fun b _ e => ⟨trivial, HL4.out b e⟩) (by unfold maxLen; simp; omega) (by simp; omega) (Nat.le_trans HB4.out.size (bel_alloc (x := (.cells #[.string ⟨#[103]⟩, .int .u8 3, .int .i64 0] 59)) (Below.refl w4.heap.size w4)).size) ?_); intro a5 c5 w5 h5 hg5 hn5; have HW5 : Hid (Below wr.heap.size wr w5) := Lib.hid (Below.grown (bel_alloc HB4.out) hg5 (Nat.le_trans HB4.out.size (bel_alloc (x := (.cells #[.string ⟨#[103]⟩, .int .u8 3, .int .i64 0] 59)) (Below.refl w4.heap.size w4)).size) (fun k e => (HO4.out.lt e).1)); have HV5 : Hid (RowsAt DclE Any w5 (.slice a5 (paramsK g).length c5) (paramsK g)) := Lib.hid (by rw [paramsK_len]; exact dcl_shut h5 (fun _ _ => trivial) (by first | (rw [paramsK_len]; unfold maxLen; omega) | (unfold maxLen; simp; omega))); clear h5 hg5 hn5; obtain ⟨q0, q1, q2, q3, q4, q5⟩ := HWF.out w5 (HBK.out.trans (HW5.out.mono HBK.out.size)))
            by_cases hL0 : LE = 0
            · subst hL0
              simp only [if_true] at HKP
              refine (HKP.out w5 (HBK.out.trans (HW5.out.mono HBK.out.size))).mono ?_
              rintro e w6 ⟨xa, xc, ya, yc, rfl, hp6, hb6⟩
              have HPR6 := Lib.hid hp6
              have HV6 : Hid (RowsAt DclE Any w6 (.slice a5 (paramsK g).length c5) (paramsK g)) := Lib.hid (HV5.out.stays (Stays.of_below hb6))
              have HB6 : Hid (Below W.heap.size W w6) := Lib.hid (HBK.out.trans ((HW5.out.trans (hb6.mono HW5.out.size)).mono HBK.out.size))
              have HWR6 : Hid (∀ w', Below w6.heap.size w6 w' → Below wr.heap.size wr w') := Lib.hid (fun w' h => HW5.out.trans ((hb6.trans (h.mono hb6.size)).mono HW5.out.size))
              clear hp6 hb6 q0 q1 q2 q3 q4 q5 f0 f1 f2 f3 f4 f5
              have HRT : Hid (∀ w' ya2 yc2, Below w6.heap.size w6 w' → NdAt Any w' (.agg #[.int .u8 57, .int .i64 0, .string ⟨#[]⟩, .slice ya2 M.length yc2]) (blockN M) → Calls Tryz.prog 31 #[.agg #[.string (g.name ++ ⟨#[49]⟩), .slice xa ((paramsN g).length + 1) xc, .int .u8 57, .int .i64 0, .string ⟨#[]⟩, .slice ya M.length yc], .int .i64 0, .agg #[.string (g.name ++ ⟨#[49]⟩), .slice a5 ((paramsN g).length + 1) c5, .int .u8 57, .int .i64 0, .string ⟨#[]⟩, .slice ya2 M.length yc2]] w' fun e w'' => e = .returned (.bool true) ∧ Below w'.heap.size w' w'') := Lib.hid (fun w' ya2 yc2 hw hn => by
                have q := returned_T (g.name ++ ⟨#[49]⟩) (paramsK g) (blockN M) xa ya a5 ya2 xc yc c5 yc2 0 w' HLE.out (HPR6.out.below hw) ⟨HV6.out.stays (Stays.of_below hw), hn⟩ (by rw [← HPM.out]; exact HSZ.out) (by rw [paramsK_len]; omega)
                simp only [if_true] at q
                unfold prW at q
                rw [paramsK_len] at q
                exact q)
              have HSS : Hid (∀ w', Below (w6.alloc (.cells #[.string (g.name ++ ⟨#[49]⟩), .slice xa ((paramsN g).length + 1) xc, .int .u8 57, .int .i64 0, .string ⟨#[]⟩, .slice ya M.length yc] 52)).heap.size (w6.alloc (.cells #[.string (g.name ++ ⟨#[49]⟩), .slice xa ((paramsN g).length + 1) xc, .int .u8 57, .int .i64 0, .string ⟨#[]⟩, .slice ya M.length yc] 52)) w' → (w'.cell? ⟨w1.heap.size, 0, none⟩ = some (.string g.name) ∧ w'.cell? ⟨w1.heap.size, 1, none⟩ = some (.slice pa g.params.length pc) ∧ w'.cell? ⟨w1.heap.size, 2, none⟩ = some (.bool g.list) ∧ w'.cell? ⟨w1.heap.size, 3, none⟩ = some (.slice ta g.temps.length tc) ∧ w'.cell? ⟨w1.heap.size, 4, none⟩ = some (.slice ba g.body.length bc) ∧ w'.cell? ⟨w1.heap.size, 5, none⟩ = some (.string g.result)) ∧ w'.cell? ⟨w6.heap.size, 0, none⟩ = some (.string (g.name ++ ⟨#[49]⟩)) ∧ w'.cell? ⟨w6.heap.size, 1, none⟩ = some (.slice xa ((paramsN g).length + 1) xc) ∧ w'.cell? ⟨w6.heap.size, 2, none⟩ = some (.int .u8 57) ∧ w'.cell? ⟨w6.heap.size, 3, none⟩ = some (.int .i64 0) ∧ w'.cell? ⟨w6.heap.size, 4, none⟩ = some (.string ⟨#[]⟩) ∧ w'.cell? ⟨w6.heap.size, 5, none⟩ = some (.slice ya M.length yc)) := Lib.hid (fun w' h => ⟨HWF.out _ (HB6.out.trans ((bel_step h (bel_alloc (Below.refl _ _))).mono HB6.out.size)), cells6 (blk_below h (at_new0 w6 _))⟩)
              have hb6x : Below w6.heap.size w6 (w6.alloc (.cells #[.string (g.name ++ ⟨#[49]⟩), .slice xa ((paramsN g).length + 1) xc, .int .u8 57, .int .i64 0, .string ⟨#[]⟩, .slice ya M.length yc] 52)) := bel_alloc (Below.refl _ _)
              have HB6X := Lib.hid hb6x
              clear hb6x
              go_wp2
              generalize (w6.alloc (.cells #[.string (g.name ++ ⟨#[49]⟩), .slice xa ((paramsN g).length + 1) xc, .int .u8 57, .int .i64 0, .string ⟨#[]⟩, .slice ya M.length yc] 52)) = W6 at *
              go_region_held3 (fun w' => (w'.cell? ⟨w1.heap.size, 0, none⟩ = some (.string g.name) ∧ w'.cell? ⟨w1.heap.size, 1, none⟩ = some (.slice pa g.params.length pc) ∧ w'.cell? ⟨w1.heap.size, 2, none⟩ = some (.bool g.list) ∧ w'.cell? ⟨w1.heap.size, 3, none⟩ = some (.slice ta g.temps.length tc) ∧ w'.cell? ⟨w1.heap.size, 4, none⟩ = some (.slice ba g.body.length bc) ∧ w'.cell? ⟨w1.heap.size, 5, none⟩ = some (.string g.result)) ∧ w'.cell? ⟨w6.heap.size, 0, none⟩ = some (.string (g.name ++ ⟨#[49]⟩)) ∧ w'.cell? ⟨w6.heap.size, 1, none⟩ = some (.slice xa ((paramsN g).length + 1) xc) ∧ w'.cell? ⟨w6.heap.size, 2, none⟩ = some (.int .u8 57) ∧ w'.cell? ⟨w6.heap.size, 3, none⟩ = some (.int .i64 0) ∧ w'.cell? ⟨w6.heap.size, 4, none⟩ = some (.string ⟨#[]⟩) ∧ w'.cell? ⟨w6.heap.size, 5, none⟩ = some (.slice ya M.length yc)) (with_reducible exact HSS.out _ (by (repeat (with_reducible first | exact Below.refl _ _ | refine bel_drew ?_ | refine bel_alloc ?_ | (apply bel_step; focus assumption)))))
                (first
                | (go_at_call 32; (with_reducible refine (HWR.out _ (HWR6.out _ (HB6X.out.trans (Below.mono ((by (repeat (with_reducible first | exact Below.refl _ _ | refine bel_drew ?_ | refine bel_alloc ?_ | (apply bel_step; focus assumption)))) : Below W6.heap.size W6 _) HB6X.out.size)))).mono ?_); rintro e w7 ⟨ya2, yc2, rfl, hn7, hb7⟩; have HN7 := Lib.hid hn7; clear hn7)
                | (go_at_call 31; (with_reducible refine (HRT.out _ ya2 yc2 (HB6X.out.trans (Below.mono ((by (repeat (with_reducible first | exact Below.refl _ _ | refine bel_drew ?_ | refine bel_alloc ?_ | (apply bel_step; focus assumption)))) : Below W6.heap.size W6 _) HB6X.out.size)) (HN7.out.stays (Stays.of_below (by (repeat (with_reducible first | exact Below.refl _ _ | refine bel_drew ?_ | refine bel_alloc ?_ | (apply bel_step; focus assumption))))))).mono ?_); rintro e w8 ⟨rfl, hb8⟩))
              all_goals
                have hf : Below w.heap.size w w8 := HBW.out.trans (Below.mono (HB6.out.trans (Below.mono (HB6X.out.trans (Below.mono ((by (repeat (with_reducible first | exact Below.refl _ _ | refine bel_drew ?_ | refine bel_alloc ?_ | (apply bel_step; focus assumption)))) : Below W6.heap.size W6 w8) HB6X.out.size)) HB6.out.size)) HBW.out.size)
                have HFF := Lib.hid hf
                clear hf
                go_wp2
                go_ret
                exact ⟨rfl, HFF.out⟩
            · simp only [if_neg hL0] at HKP
              refine (HKP.out w5 (HBK.out.trans (HW5.out.mono HBK.out.size))).mono ?_
              rintro e w6 ⟨xa, xc, ya, yc, rfl, hp6, hb6⟩
              have HPR6 := Lib.hid hp6
              have HV6 : Hid (RowsAt DclE Any w6 (.slice a5 (paramsK g).length c5) (paramsK g)) := Lib.hid (HV5.out.stays (Stays.of_below hb6))
              have HB6 : Hid (Below W.heap.size W w6) := Lib.hid (HBK.out.trans ((HW5.out.trans (hb6.mono HW5.out.size)).mono HBK.out.size))
              have HWR6 : Hid (∀ w', Below w6.heap.size w6 w' → Below wr.heap.size wr w') := Lib.hid (fun w' h => HW5.out.trans ((hb6.trans (h.mono hb6.size)).mono HW5.out.size))
              clear hp6 hb6 q0 q1 q2 q3 q4 q5 f0 f1 f2 f3 f4 f5
              have HRT : Hid (∀ w' ya2 yc2, Below w6.heap.size w6 w' → NdAt Any w' (.agg #[.int .u8 57, .int .i64 0, .string ⟨#[]⟩, .slice ya2 M.length yc2]) (blockN M) → Calls Tryz.prog 31 #[.agg #[.string ⟨#[]⟩, .slice none 0 0, .int .u8 0, .int .i64 0, .string ⟨#[]⟩, .slice none 0 0], .int .i64 LE, .agg #[.string (g.name ++ ⟨#[49]⟩), .slice a5 ((paramsN g).length + 1) c5, .int .u8 57, .int .i64 0, .string ⟨#[]⟩, .slice ya2 M.length yc2]] w' fun e w'' => e = .returned (.bool true) ∧ Below w'.heap.size w' w'') := Lib.hid (fun w' ya2 yc2 hw hn => by
                have q := returned_T (g.name ++ ⟨#[49]⟩) (paramsK g) (blockN M) xa ya a5 ya2 xc yc c5 yc2 LE w' HLE.out (HPR6.out.below hw) ⟨HV6.out.stays (Stays.of_below hw), hn⟩ (by rw [← HPM.out]; exact HSZ.out) (by rw [paramsK_len]; omega)
                simp only [if_neg hL0] at q
                unfold prW at q
                rw [paramsK_len] at q
                exact q)
              have HSS : Hid (∀ w', Below (w6.alloc (.cells #[.string ⟨#[]⟩, .slice none 0 0, .int .u8 0, .int .i64 0, .string ⟨#[]⟩, .slice none 0 0] 52)).heap.size (w6.alloc (.cells #[.string ⟨#[]⟩, .slice none 0 0, .int .u8 0, .int .i64 0, .string ⟨#[]⟩, .slice none 0 0] 52)) w' → (w'.cell? ⟨w1.heap.size, 0, none⟩ = some (.string g.name) ∧ w'.cell? ⟨w1.heap.size, 1, none⟩ = some (.slice pa g.params.length pc) ∧ w'.cell? ⟨w1.heap.size, 2, none⟩ = some (.bool g.list) ∧ w'.cell? ⟨w1.heap.size, 3, none⟩ = some (.slice ta g.temps.length tc) ∧ w'.cell? ⟨w1.heap.size, 4, none⟩ = some (.slice ba g.body.length bc) ∧ w'.cell? ⟨w1.heap.size, 5, none⟩ = some (.string g.result)) ∧ w'.cell? ⟨w6.heap.size, 0, none⟩ = some (.string ⟨#[]⟩) ∧ w'.cell? ⟨w6.heap.size, 1, none⟩ = some (.slice none 0 0) ∧ w'.cell? ⟨w6.heap.size, 2, none⟩ = some (.int .u8 0) ∧ w'.cell? ⟨w6.heap.size, 3, none⟩ = some (.int .i64 0) ∧ w'.cell? ⟨w6.heap.size, 4, none⟩ = some (.string ⟨#[]⟩) ∧ w'.cell? ⟨w6.heap.size, 5, none⟩ = some (.slice none 0 0)) := Lib.hid (fun w' h => ⟨HWF.out _ (HB6.out.trans ((bel_step h (bel_alloc (Below.refl _ _))).mono HB6.out.size)), cells6 (blk_below h (at_new0 w6 _))⟩)
              have hb6x : Below w6.heap.size w6 (w6.alloc (.cells #[.string ⟨#[]⟩, .slice none 0 0, .int .u8 0, .int .i64 0, .string ⟨#[]⟩, .slice none 0 0] 52)) := bel_alloc (Below.refl _ _)
              have HB6X := Lib.hid hb6x
              clear hb6x
              go_wp2
              generalize (w6.alloc (.cells #[.string ⟨#[]⟩, .slice none 0 0, .int .u8 0, .int .i64 0, .string ⟨#[]⟩, .slice none 0 0] 52)) = W6 at *
              go_region_held3 (fun w' => (w'.cell? ⟨w1.heap.size, 0, none⟩ = some (.string g.name) ∧ w'.cell? ⟨w1.heap.size, 1, none⟩ = some (.slice pa g.params.length pc) ∧ w'.cell? ⟨w1.heap.size, 2, none⟩ = some (.bool g.list) ∧ w'.cell? ⟨w1.heap.size, 3, none⟩ = some (.slice ta g.temps.length tc) ∧ w'.cell? ⟨w1.heap.size, 4, none⟩ = some (.slice ba g.body.length bc) ∧ w'.cell? ⟨w1.heap.size, 5, none⟩ = some (.string g.result)) ∧ w'.cell? ⟨w6.heap.size, 0, none⟩ = some (.string ⟨#[]⟩) ∧ w'.cell? ⟨w6.heap.size, 1, none⟩ = some (.slice none 0 0) ∧ w'.cell? ⟨w6.heap.size, 2, none⟩ = some (.int .u8 0) ∧ w'.cell? ⟨w6.heap.size, 3, none⟩ = some (.int .i64 0) ∧ w'.cell? ⟨w6.heap.size, 4, none⟩ = some (.string ⟨#[]⟩) ∧ w'.cell? ⟨w6.heap.size, 5, none⟩ = some (.slice none 0 0)) (with_reducible exact HSS.out _ (by (repeat (with_reducible first | exact Below.refl _ _ | refine bel_drew ?_ | refine bel_alloc ?_ | (apply bel_step; focus assumption)))))
                (first
                | (go_at_call 32; (with_reducible refine (HWR.out _ (HWR6.out _ (HB6X.out.trans (Below.mono ((by (repeat (with_reducible first | exact Below.refl _ _ | refine bel_drew ?_ | refine bel_alloc ?_ | (apply bel_step; focus assumption)))) : Below W6.heap.size W6 _) HB6X.out.size)))).mono ?_); rintro e w7 ⟨ya2, yc2, rfl, hn7, hb7⟩; have HN7 := Lib.hid hn7; clear hn7)
                | (go_at_call 31; (with_reducible refine (HRT.out _ ya2 yc2 (HB6X.out.trans (Below.mono ((by (repeat (with_reducible first | exact Below.refl _ _ | refine bel_drew ?_ | refine bel_alloc ?_ | (apply bel_step; focus assumption)))) : Below W6.heap.size W6 _) HB6X.out.size)) (HN7.out.stays (Stays.of_below (by (repeat (with_reducible first | exact Below.refl _ _ | refine bel_drew ?_ | refine bel_alloc ?_ | (apply bel_step; focus assumption))))))).mono ?_); rintro e w8 ⟨rfl, hb8⟩))
              all_goals
                have hf : Below w.heap.size w w8 := HBW.out.trans (Below.mono (HB6.out.trans (Below.mono (HB6X.out.trans (Below.mono ((by (repeat (with_reducible first | exact Below.refl _ _ | refine bel_drew ?_ | refine bel_alloc ?_ | (apply bel_step; focus assumption)))) : Below W6.heap.size W6 w8) HB6X.out.size)) HB6.out.size)) HBW.out.size)
                have HFF := Lib.hid hf
                clear hf
                go_wp2
                go_ret
                exact ⟨rfl, HFF.out⟩
end Go.Proofs.YtehmmokkjojggabGreatDoor
