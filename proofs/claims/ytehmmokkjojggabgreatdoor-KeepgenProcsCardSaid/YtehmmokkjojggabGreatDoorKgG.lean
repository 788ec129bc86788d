/- Walks: backsteplaw05.small, great, Great; backsteplaw37.Great without arguments. -/
import Derived.Test.YtehmmokkjojggabGreatDoorZq28
namespace Go.Proofs.YtehmmokkjojggabGreatDoor
set_option linter.unusedVariables false
set_option linter.unusedSimpArgs false
open Go.RowKit

def SmPost (n : Nd) (g : Nat) (L : Int) (w : World) (e : Ending) (w' : World) : Prop :=
  ∃ (b : Bool) (L' : Int), e = .returned (.bool b) ∧ w'.heap[g]? = some (.cells #[.int .i64 L'] 3 (0, 0)) ∧ Keeps w w' (fun k => k = g) ∧ L' ≤ L ∧ (b = true → 0 ≤ L' ∧ L' = L - sizeN n)
def GrPost (n : Nd) (w : World) (e : Ending) (w' : World) : Prop := ∃ b : Bool, e = .returned (.bool b) ∧ (b = false → sizeN n ≤ 200) ∧ Below w.heap.size w w'

set_option maxRecDepth 100000 in
set_option maxHeartbeats 3200000 in
theorem small_upto (m : Nat) : ∀ (n : Nd) (v : Value) (A : Nat → Prop) (w : World) (g : Nat) (L D : Int), sizeN n ≤ m → NdAt A w v n → ¬ A g → w.heap[g]? = some (.cells #[.int .i64 L] 3 (0, 0)) → 0 ≤ L ∧ L ≤ 200 → 0 ≤ D ∧ D ≤ 100 →
    Calls Tryz.prog 137 #[v, .int .i64 D, .pointer (some ⟨g, 0, none⟩)] w (SmPost n g L w) := by
  induction m with
  | zero => intro n v A w g L D hm; have := size_pos n; omega
  | succ m ih =>
    intro n v A w g L D hm hv hAg hg hL hD
    have IH := Lib.hid ih
    clear ih
    obtain ⟨hok, hlen, ka, kc, rfl, hk⟩ := hv.open
    have HS : Hid (∀ j, j < n.kids.length → sizeN (at' n.kids j) ≤ m) := Lib.hid (fun j hj => by have := size_kid n j hj; omega)
    have HZ := Lib.hid (sizeN_eq n)
    clear hm
    unfold maxLen at hlen
    have hgl : g < w.heap.size := by rw [Array.getElem?_eq_some_iff] at hg; exact hg.1
    have hA : Below w.heap.size w (w.alloc (.cells #[.int .u8 n.kind, .int .i64 n.num, .string n.name, .slice ka n.kids.length kc] 35)) := bel_alloc (Below.refl _ _)
    have hg1 := blk_below hA hg
    have e1 := cell_blk hg1 0 rfl
    have f1 := unfrozen hg1
    have hg2 := heap_setCell_same _ g 0 _ _ (.int .i64 (L - 1)) hg1
    simp only [List.setIfInBounds_toArray, List.set_cons_zero] at hg2
    have hn2 := blk_set (o := 0) (x := .int .i64 (L - 1)) (at_new0 w (.cells #[.int .u8 n.kind, .int .i64 n.num, .string n.name, .slice ka n.kids.length kc] 35)) (g := g) (by omega)
    obtain ⟨n0, n1, n2, n3⟩ := cells4 hn2
    have hK := (Keeps.of_below (fun k => k = g) hA).same (keeps_set _ g 0 (.int .i64 (L - 1)))
    have HK := Lib.hid (hk.stays (hK.stays (fun k a _ e => hAg (e ▸ a))))
    have HG2 := Lib.hid hg2
    have HKK := Lib.hid hK
    have hwr : IntKind.i64.wrap (L - 1) = L - 1 := by rw [IntKind.wrap_i64]; omega
    have HAG := Lib.hid hAg
    clear hv hk hg hn2 hg1 hg2 hK hgl
    go_enter Tryz.func137, Tryz.ntmps137
    by_cases c1 : L - 1 < 0
    · go_wp2
      go_ret
      exact ⟨false, _, rfl, HG2.out, HKK.out, by omega, fun h => by cases h⟩
    by_cases c2 : D = 0
    · subst c2
      go_wp2
      go_ret
      exact ⟨false, _, rfl, HG2.out, HKK.out, by omega, fun h => by cases h⟩
    have c2' : (D == 0) = false := by simpa using c2
    by_cases c3 : (40 : Int) < n.name.size
    · go_wp2
      go_ret
      exact ⟨false, _, rfl, HG2.out, HKK.out, by omega, fun h => by cases h⟩
    have hwd : IntKind.i64.wrap (D - 1) = D - 1 := by rw [IntKind.wrap_i64]; omega
    go_wp2
    generalize ((w.alloc (.cells #[.int .u8 n.kind, .int .i64 n.num, .string n.name, .slice ka n.kids.length kc] 35)).setCell ⟨g, 0, none⟩ (.int .i64 (L - 1))) = W at *
    go_loopw [31] (fun i wr => ∃ k : Nat, k ≤ n.kids.length ∧ i = .int .i64 k ∧ ∃ Lk : Int, wr.heap[g]? = some (.cells #[.int .i64 Lk] 3 (0, 0)) ∧ Keeps W wr (fun k => k = g) ∧ 0 ≤ Lk ∧ Lk = L - 1 - sizeL (n.kids.take k)) (fun i _ => n.kids.length - (intOf i).toNat)
    case atStart => exact ⟨0, Nat.zero_le _, rfl, L - 1, HG2.out, Keeps.refl _ _, by omega, by simp [sizeL]⟩
    case round =>
      obtain ⟨k, hkk, rfl, Lk, hgk, hkp, h0, h1⟩ := hrel
      have HKP := Lib.hid hkp
      have hz := hkp.size
      have hKW := HKK.out.size
      by_cases hlt : k < n.kids.length
      · obtain ⟨b, off, cap, ka', kc', he, hb, _, _, q0, q1, q2, q3, hnd⟩ := (HK.out.stays (hkp.stays (fun k a _ e => HAG.out (e ▸ a)))).at hlt
        simp only [Value.slice.injEq] at he
        obtain ⟨rfl, -, rfl⟩ := he
        have hB : Below wr.heap.size wr (wr.alloc (.cells #[.int .u8 (at' n.kids k).kind, .int .i64 (at' n.kids k).num, .string (at' n.kids k).name, .slice ka' (at' n.kids k).kids.length kc'] 35)) := bel_alloc (Below.refl _ _)
        obtain ⟨kk0, kk1, kk2, kk3⟩ := cells4 (at_new0 wr (.cells #[.int .u8 (at' n.kids k).kind, .int .i64 (at' n.kids k).num, .string (at' n.kids k).name, .slice ka' (at' n.kids k).kids.length kc'] 35))
        have HT := Lib.hid (sizeL_take n.kids k hlt)
        have HC := Lib.hid (IH.out (at' n.kids k) _ A _ g Lk (D - 1) (HS.out k hlt) (hnd.stays (Stays.of_below hB)) HAG.out (blk_below hB hgk) ⟨h0, by omega⟩ ⟨by omega, by omega⟩)
        have HB := Lib.hid hB
        clear hnd hB hkp hgk
        go_wp2_with fail
        refine HC.out.mono ?_
        rintro e w5 ⟨b5, L5, rfl, hg5, hk5, h5, h6⟩
        have HK5 := Lib.hid ((HKP.out.same (Keeps.of_below _ HB.out)).same hk5)
        have HG5 := Lib.hid hg5
        clear hg5 hk5 kk0 kk1 kk2 kk3 HC
        cases b5 with
        | false =>
          go_wp2
          go_ret
          exact ⟨false, L5, rfl, HG5.out, HKK.out.same HK5.out, by omega, fun h => by cases h⟩
        | true =>
          obtain ⟨h7, h8⟩ := h6 rfl
          go_wp2
          go_roundw
          case rel => exact ⟨k + 1, by omega, by go_num, L5, HG5.out, HK5.out, h7, by rw [h8, h1, HT.out]; omega⟩
          case measure => simp [intOf]; omega
      · obtain rfl : k = n.kids.length := by omega
        have hlt' : ¬ (n.kids.length : Int) < (n.kids.length : Int) := by omega
        rw [List.take_length] at h1
        have HGK := Lib.hid hgk
        go_wp2
        go_ret
        exact ⟨true, Lk, rfl, HGK.out, HKK.out.same HKP.out, by omega, fun _ => ⟨h0, by rw [HZ.out, h1]; push_cast; omega⟩⟩

set_option maxRecDepth 100000 in set_option maxHeartbeats 3200000 in theorem tgreat_any (n : Nd) (v : Value) (A : Nat → Prop) (w : World) (hv : NdAt A w v n) :
    Calls Tryz.prog 125 #[v] w (GrPost n w) := by
  obtain ⟨hok, hlen, ka, kc, rfl, hk⟩ := hv.open
  have hA : Below w.heap.size w ((w.alloc (.cells #[.int .u8 n.kind, .int .i64 n.num, .string n.name, .slice ka n.kids.length kc] 35)).alloc (.cells #[.int .i64 200] 3)) := bel_alloc (bel_alloc (Below.refl _ _))
  have hv2 : NdAt (fun k => k < w.heap.size) w (.agg #[.int .u8 n.kind, .int .i64 n.num, .string n.name, .slice ka n.kids.length kc]) n := hv.stays ⟨Nat.le_refl _, fun b hb _ => ⟨rfl, hb⟩⟩
  have HC := Lib.hid (small_upto _ n _ _ _ (w.heap.size + 1) 200 24 (Nat.le_refl _) (hv2.stays (Stays.of_below hA)) (fun h => by omega) (at_new w _ _) ⟨by omega, by omega⟩ ⟨by omega, by omega⟩)
  have HB := Lib.hid hA
  obtain ⟨n0, n1, n2, n3⟩ := cells4 (at_old w (.cells #[.int .u8 n.kind, .int .i64 n.num, .string n.name, .slice ka n.kids.length kc] 35) (.cells #[.int .i64 200] 3))
  clear hv hk hA hv2
  go_enter Tryz.func125, Tryz.ntmps125
  go_wp2_with fail
  refine HC.out.mono ?_
  rintro e w5 ⟨b5, L5, rfl, hg5, hk5, h5, h6⟩
  have HK5 := Lib.hid (HB.out.trans (hk5.below (B := w.heap.size) (fun k e => by omega) HB.out.size))
  clear hg5 hk5 HC
  go_wp2
  go_ret
  exact ⟨!b5, rfl, fun h => by
    obtain ⟨h7, h8⟩ := h6 (by simpa using h)
    omega, HK5.out⟩

set_option maxRecDepth 100000 in set_option maxHeartbeats 3200000 in theorem pgreat_any (n : Nd) (a0 a1 : Value) (k0 k1 k2 k3 : Value) (A : Nat → Prop) (w : World) (h0 : a0 = .slice none 0 0) (h1 : a1 = .slice none 0 0) (hv : NdAt A w (.agg #[k0, k1, k2, k3]) n) :
    Calls Tryz.prog 105 #[.agg #[a0, a1, k0, k1, k2, k3]] w fun e w' => ∃ x : Int, e = .returned (.int .i64 x) ∧ (x = 0 ∨ x = 1) ∧ (x = 0 → sizeN n ≤ 200) ∧ Below w.heap.size w w' := by
  subst h0
  subst h1
  obtain ⟨hok, hlen, ka, kc, he, hk⟩ := hv.open
  simp only [Value.agg.injEq] at he
  obtain ⟨rfl, rfl, rfl, rfl⟩ := he
  have hA : Below w.heap.size w (w.alloc (.cells #[.slice none 0 0, .slice none 0 0, .int .u8 n.kind, .int .i64 n.num, .string n.name, .slice ka n.kids.length kc] 133)) := bel_alloc (Below.refl _ _)
  have HC := Lib.hid (tgreat_any n _ A _ (hv.stays (Stays.of_below hA)))
  have HB := Lib.hid hA
  have hP := at_new0 w (.cells #[.slice none 0 0, .slice none 0 0, .int .u8 n.kind, .int .i64 n.num, .string n.name, .slice ka n.kids.length kc] 133)
  obtain ⟨n0, n1, n2, n3, n4, n5⟩ := cells6 hP
  have HP := Lib.hid hP
  clear hv hk hA hP
  go_enter Tryz.func105, Tryz.ntmps105
  go_wp2_with fail
  refine HC.out.mono ?_
  rintro e w5 ⟨b5, rfl, h5, hb5⟩
  obtain ⟨m0, m1, m2, m3, m4, m5⟩ := cells6 (blk_below hb5 HP.out)
  have HB5 := Lib.hid (HB.out.trans (hb5.mono HB.out.size))
  clear hb5 n0 n1 n2 n3 n4 n5 HC
  cases b5 with
  | true =>
    go_wp2
    go_ret
    exact ⟨1, rfl, .inr rfl, fun h => by omega, HB5.out⟩
  | false =>
    have H5 : Hid (sizeN n ≤ 200) := Lib.hid (h5 rfl)
    clear h5
    go_wp2
    go_loopw [27] (fun i wr => i = .int .i64 0 ∧ wr = w5) (fun i _ => 0)
    case atStart => exact ⟨rfl, rfl⟩
    case round =>
      obtain ⟨rfl, rfl⟩ := hrel
      go_wp2
      go_loopw [39] (fun i wr2 => i = .int .i64 0 ∧ wr2 = wr) (fun i _ => 0)
      case atStart => exact ⟨rfl, rfl⟩
      case round =>
        obtain ⟨rfl, rfl⟩ := hrel
        go_wp2
        go_ret
        exact ⟨0, rfl, .inl rfl, fun _ => H5.out, HB5.out⟩
/-- a library and arguments within the statements' limits -/
structure GreatOk (lib : List Fn) : Prop where
  len : lib.length ≤ 6
  bod : ∀ i, i < lib.length → sizeN (at' lib i).body ≤ 200
  nam : ∀ i, i < lib.length → (at' lib i).name.size ≤ 40
def G37 (lib : List Fn) (w : World) (e : Ending) (w' : World) : Prop := ∃ x : Int, e = .returned (.int .i64 x) ∧ (x = 0 ∨ x = 1) ∧ (x = 0 → GreatOk lib) ∧ Below w.heap.size w w'
theorem g37_no {lib : List Fn} {w w' : World} (h : Below w.heap.size w w') : G37 lib w (.returned (.int .i64 1)) w' := ⟨1, rfl, .inr rfl, fun h => by omega, h⟩

set_option maxRecDepth 100000 in set_option maxHeartbeats 3200000 in theorem great37_any (lv : Value) (lib : List Fn) (A : Nat → Prop) (w : World) (hl : FnsAt A w lv lib) :
    Calls Tryz.prog 65 #[lv, .slice none 0 0] w (G37 lib w) := by
  obtain ⟨hll, la, lc, rfl⟩ := hl.form
  unfold maxLen at hll
  have HL : Hid (FnsAt (fun k => k < w.heap.size) w (.slice la lib.length lc) lib) := Lib.hid (hl.stays ⟨Nat.le_refl _, fun b hb _ => ⟨rfl, hb⟩⟩)
  clear hl
  go_enter Tryz.func65, Tryz.ntmps65
  by_cases l6 : (6 : Int) < lib.length
  · go_wp2
    go_ret
    exact g37_no (Below.refl _ _)
  go_wp2
  go_loopw [21] (fun i wr => ∃ k : Nat, k ≤ lib.length ∧ i = .int .i64 k ∧ (∀ j, j < k → sizeN (at' lib j).body ≤ 200 ∧ (at' lib j).name.size ≤ 40) ∧ Below w.heap.size w wr) (fun i _ => lib.length - (intOf i).toNat)
  case atStart => exact ⟨0, Nat.zero_le _, rfl, fun j hj => absurd hj (by omega), Below.refl _ _⟩
  case round =>
    obtain ⟨k, hkk, rfl, hno, hbl⟩ := hrel
    have HNO := Lib.hid hno
    have HBL := Lib.hid hbl
    clear hno
    by_cases hlt : k < lib.length
    · obtain ⟨b, off, cap, pa, pc, ka, kc, he, hb, _, hAb, c0, c1, c2, c3, c4, c5, c6, hsn, hpar, hnd⟩ := (HL.out.stays (Stays.of_below hbl)).at hlt
      simp only [Value.slice.injEq] at he
      obtain ⟨rfl, -, rfl⟩ := he
      obtain ⟨B, hB⟩ : ∃ B, B = Obj.cells #[.string (at' lib k).name, .slice pa (at' lib k).params.length pc, .bool (at' lib k).list, .int .u8 (at' lib k).body.kind, .int .i64 (at' lib k).body.num, .string (at' lib k).body.name, .slice ka (at' lib k).body.kids.length kc] 37 (0, 0) := ⟨_, rfl⟩
      have hbx : Below w.heap.size w (wr.alloc B) := bel_alloc hbl
      have HBX := Lib.hid hbx
      have HPAR := Lib.hid (hpar.stays (Stays.of_below (bel_alloc (x := B) (Below.refl wr.heap.size wr))))
      have HC := Lib.hid (pgreat_any (at' lib k).body _ _ _ _ _ _ _ _ rfl rfl (hnd.stays (Stays.of_below (bel_alloc (x := B) (Below.refl wr.heap.size wr)))))
      have HBK := Lib.hid (at_new0 wr B)
      have hpl := hpar.form.1
      unfold maxLen at hpl
      subst hB
      clear hbl hpar hnd hbx
      by_cases p10 : (10 : Int) < (at' lib k).params.length
      · go_wp2
        go_ret
        exact g37_no HBX.out
      by_cases n40 : (40 : Int) < (at' lib k).name.size
      · go_wp2
        go_ret
        exact g37_no HBX.out
      go_wp2_with fail
      refine HC.out.mono ?_
      rintro e w5 ⟨x, rfl, hx, hx2, hb5⟩
      have HX2 := Lib.hid hx2
      have HB5 := Lib.hid (HBX.out.trans (hb5.mono HBX.out.size))
      have HP5 := Lib.hid (HPAR.out.stays (Stays.of_below hb5))
      have f1 := cell_blk (blk_below hb5 HBK.out) 1 rfl
      clear hb5 hx2 HC
      rcases hx with rfl | rfl
      · have HX3 : Hid (sizeN (at' lib k).body ≤ 200 ∧ (at' lib k).name.size ≤ 40) := Lib.hid ⟨HX2.out rfl, by omega⟩
        clear HX2
        go_wp2
        go_loopw [45] (fun i wr2 => ∃ j : Nat, j ≤ (at' lib k).params.length ∧ i = .int .i64 j ∧ Below w5.heap.size w5 wr2) (fun i _ => (at' lib k).params.length - (intOf i).toNat)
        case atStart => exact ⟨0, Nat.zero_le _, rfl, Below.refl _ _⟩
        case round =>
          obtain ⟨j, hjj, rfl, hbj⟩ := hrel
          have HBJ := Lib.hid hbj
          by_cases hjlt : j < (at' lib k).params.length
          · obtain ⟨b', off', cap', he, hb', _, _, p0, p1, hs⟩ := (HP5.out.stays (Stays.of_below hbj)).at hjlt
            simp only [Value.slice.injEq] at he
            obtain ⟨rfl, -, rfl⟩ := he
            clear hbj
            by_cases n41 : (40 : Int) < (at' (at' lib k).params j).name.size
            · go_wp2
              go_ret
              exact g37_no (HB5.out.trans ((bel_alloc HBJ.out).mono HB5.out.size))
            · go_wp2
              go_roundw
              case rel => exact ⟨j + 1, by omega, by go_num, bel_alloc HBJ.out⟩
              case measure => simp [intOf]; omega
          · obtain rfl : j = (at' lib k).params.length := by omega
            have hlt' : ¬ ((at' lib k).params.length : Int) < ((at' lib k).params.length : Int) := by omega
            clear hbj
            go_wp2
            go_roundw
            case rel => exact ⟨k + 1, by omega, by go_num, fun j' hj' => (by
              by_cases e : j' = k
              · rw [e]; exact HX3.out
              · exact HNO.out j' (by omega)), HB5.out.trans (HBJ.out.mono HB5.out.size)⟩
            case measure => simp [intOf]; omega
      · go_wp2
        go_ret
        exact g37_no HB5.out
    · obtain rfl : k = lib.length := by omega
      have hlt' : ¬ (lib.length : Int) < (lib.length : Int) := by omega
      clear hbl
      go_wp2
      go_loopw [57] (fun i wr2 => i = .int .i64 0 ∧ Below w.heap.size w wr2) (fun i _ => 0)
      case atStart => exact ⟨rfl, HBL.out⟩
      case round =>
        obtain ⟨rfl, hbj⟩ := hrel
        have HBJ := Lib.hid hbj
        clear hbj
        go_wp2
        go_ret
        exact ⟨0, rfl, .inl rfl, fun _ => ⟨by omega, fun i hi => (HNO.out i hi).1, fun i hi => (HNO.out i hi).2⟩, HBJ.out⟩
end Go.Proofs.YtehmmokkjojggabGreatDoor
