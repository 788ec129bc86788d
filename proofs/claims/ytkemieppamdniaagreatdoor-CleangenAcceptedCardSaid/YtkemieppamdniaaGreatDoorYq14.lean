/- Contracts and plain lemmas (TreeA, TreeB): no statement of the seat is proved here. -/
import Derived.Test.YtkemieppamdniaaGreatDoorYq02
import Derived.Deep.RegionHeld3
set_option linter.unusedSimpArgs false
set_option linter.unusedVariables false
set_option linter.unusedSectionVars false
/- Walks: the sizes and depths of trees (package ast, package backstepref04), equality of a tree with itself. -/
namespace Go.Proofs.YtkemieppamdniaaGreatDoor
set_option linter.unusedVariables false
open Go.RowKit

set_option maxRecDepth 100000 in
set_option maxHeartbeats 1600000 in
theorem astSize_upto (m : Nat) : ∀ (n : Nd) (v : Value) (A : Nat → Prop) (w : World), sizeN n ≤ m → sizeN n ≤ 1000000 → NdAt A w v n →
    Calls Tryz.prog 49 #[v] w fun e w' => e = .returned (.int .i64 (sizeN n)) ∧ Below w.heap.size w w' := by
  induction m with
  | zero => intro n v A w hm; have := size_pos n; omega
  | succ m ih =>
    intro n v A w hm hmil hv
    have IH := Lib.hid ih
    clear ih
    obtain ⟨hok, hlen, ka, kc, rfl, hk⟩ := hv.open
    have HS : Hid (∀ j, j < n.kids.length → sizeN (at' n.kids j) ≤ m ∧ sizeN (at' n.kids j) ≤ 1000000) := Lib.hid (fun j hj => by have := size_kid n j hj; omega)
    have HE := Lib.hid (sizeN_eq n)
    have hsz : sizeL n.kids ≤ 1000000 := by have := HE.out; omega
    clear hmil hm
    unfold maxLen at hlen
    have hA : Below w.heap.size w (w.alloc (.cells #[.int .u8 n.kind, .int .i64 n.num, .string n.name, .slice ka n.kids.length kc] 35)) := (Below.refl _ _).alloc (Nat.le_refl _) _
    clear hv
    go_enter Tryz.func49, Tryz.ntmps49
    go_wp2
    go_loopw [3, 9] (fun s i wr => ∃ k : Nat, k ≤ n.kids.length ∧ i = .int .i64 k ∧ s = .int .i64 (sizeL (n.kids.take k) + 1) ∧ Below w.heap.size w wr) (fun _ i _ => n.kids.length - (intOf i).toNat)
    case atStart => exact ⟨0, Nat.zero_le _, rfl, rfl, hA⟩
    case round =>
      obtain ⟨k, hkk, rfl, rfl, hbl⟩ := hrel
      have hz := hbl.size
      have hs1 := sizeL_take_le n.kids k
      by_cases hlt : k < n.kids.length
      · obtain ⟨b, off, cap, ka', kc', he, hb, _, _, c0, c1, c2, c3, hnd⟩ := (hk.stays (Stays.of_below hbl)).at hlt
        simp only [Value.slice.injEq] at he
        obtain ⟨rfl, -, rfl⟩ := he
        have hA2 : Below wr.heap.size wr (wr.alloc (.cells #[.int .u8 (at' n.kids k).kind, .int .i64 (at' n.kids k).num, .string (at' n.kids k).name, .slice ka' (at' n.kids k).kids.length kc'] 35)) := (Below.refl _ _).alloc (Nat.le_refl _) _
        have HT := Lib.hid (sizeL_take n.kids k hlt)
        have hsk := (HS.out k hlt).2
        go_wp2_with fail
        refine (IH.out (at' n.kids k) _ A _ (HS.out k hlt).1 hsk (hnd.stays (Stays.of_below hA2))).mono ?_
        rintro e w2 ⟨rfl, hb2⟩
        have hB2 : Below w.heap.size w w2 := hbl.trans ((hA2.trans (hb2.mono (by simp))).mono hz)
        go_wp2
        go_roundw
        case rel => exact ⟨k + 1, by omega, by go_num, by rw [HT.out]; go_num, hB2⟩
        case measure => simp [intOf]; omega
      · obtain rfl : k = n.kids.length := by omega
        rw [List.take_length] at *
        go_wp2
        go_ret
        rw [HE.out]
        exact ⟨by go_num, hbl⟩
theorem astSize_any (n : Nd) (v : Value) (A : Nat → Prop) (w : World) (h : sizeN n ≤ 1000000) (hv : NdAt A w v n) : Calls Tryz.prog 49 #[v] w fun e w' => e = .returned (.int .i64 (sizeN n)) ∧ Below w.heap.size w w' := astSize_upto _ n v A w (Nat.le_refl _) h hv

set_option maxRecDepth 100000 in
set_option maxHeartbeats 1600000 in
theorem astDepth_upto (m : Nat) : ∀ (n : Nd) (v : Value) (A : Nat → Prop) (w : World), sizeN n ≤ m → sizeN n ≤ 1000000 → NdAt A w v n →
    Calls Tryz.prog 48 #[v] w fun e w' => e = .returned (.int .i64 (depthN n)) ∧ Below w.heap.size w w' := by
  induction m with
  | zero => intro n v A w hm; have := size_pos n; omega
  | succ m ih =>
    intro n v A w hm hmil hv
    have IH := Lib.hid ih
    clear ih
    obtain ⟨hok, hlen, ka, kc, rfl, hk⟩ := hv.open
    have HS : Hid (∀ j, j < n.kids.length → sizeN (at' n.kids j) ≤ m ∧ sizeN (at' n.kids j) ≤ 1000000) := Lib.hid (fun j hj => by have := size_kid n j hj; omega)
    have HD := Lib.hid (depthN_eq n)
    have hsz : sizeL n.kids ≤ 1000000 := by have := sizeN_eq n; omega
    clear hmil hm
    unfold maxLen at hlen
    have hA : Below w.heap.size w (w.alloc (.cells #[.int .u8 n.kind, .int .i64 n.num, .string n.name, .slice ka n.kids.length kc] 35)) := (Below.refl _ _).alloc (Nat.le_refl _) _
    clear hv
    go_enter Tryz.func48, Tryz.ntmps48
    go_wp2
    go_loopw [3, 9] (fun d i wr => ∃ k : Nat, k ≤ n.kids.length ∧ i = .int .i64 k ∧ d = .int .i64 (depthL (n.kids.take k)) ∧ Below w.heap.size w wr) (fun _ i _ => n.kids.length - (intOf i).toNat)
    case atStart => exact ⟨0, Nat.zero_le _, rfl, rfl, hA⟩
    case round =>
      obtain ⟨k, hkk, rfl, rfl, hbl⟩ := hrel
      have hz := hbl.size
      have hs1 := sizeL_take_le n.kids k
      have hd1 := depthL_le (n.kids.take k)
      by_cases hlt : k < n.kids.length
      · obtain ⟨b, off, cap, ka', kc', he, hb, _, _, c0, c1, c2, c3, hnd⟩ := (hk.stays (Stays.of_below hbl)).at hlt
        simp only [Value.slice.injEq] at he
        obtain ⟨rfl, -, rfl⟩ := he
        have hA2 : Below wr.heap.size wr (wr.alloc (.cells #[.int .u8 (at' n.kids k).kind, .int .i64 (at' n.kids k).num, .string (at' n.kids k).name, .slice ka' (at' n.kids k).kids.length kc'] 35)) := (Below.refl _ _).alloc (Nat.le_refl _) _
        have HU := Lib.hid (depthL_take n.kids k hlt)
        have hsk := (HS.out k hlt).2
        have hdk := depth_le (at' n.kids k)
        go_wp2_with fail
        refine (IH.out (at' n.kids k) _ A _ (HS.out k hlt).1 hsk (hnd.stays (Stays.of_below hA2))).mono ?_
        rintro e w2 ⟨rfl, hb2⟩
        have hB2 : Below w.heap.size w w2 := hbl.trans ((hA2.trans (hb2.mono (by simp))).mono hz)
        go_wp2
        go_roundw
        case rel => exact ⟨k + 1, by omega, by go_num, by rw [HU.out]; first | exact max_eq _ _ | (congr 1; omega) | (congr 1; simp), hB2⟩
        case measure => simp [intOf]; omega
      · obtain rfl : k = n.kids.length := by omega
        rw [List.take_length] at *
        go_wp2
        go_ret
        rw [HD.out]
        exact ⟨by go_num, hbl⟩
theorem astDepth_any (n : Nd) (v : Value) (A : Nat → Prop) (w : World) (h : sizeN n ≤ 1000000) (hv : NdAt A w v n) : Calls Tryz.prog 48 #[v] w fun e w' => e = .returned (.int .i64 (depthN n)) ∧ Below w.heap.size w w' := astDepth_upto _ n v A w (Nat.le_refl _) h hv

end Go.Proofs.YtkemieppamdniaaGreatDoor
/- Walks: equality of a tree with itself (package backstepref04), the budget of nodes (package backsteplaw40). -/
namespace Go.Proofs.YtkemieppamdniaaGreatDoor
set_option linter.unusedVariables false
open Go.RowKit

mutual
/-- what is left of a budget -/
def leftN : Nd → Int → Int
  | .mk _ _ _ kids, left => leftL kids (left - 1)
def leftL : List Nd → Int → Int
  | [], left => left
  | n :: r, left => if left < 0 then left else leftL r (leftN n left)
end
theorem leftL_snoc (n : Nd) : ∀ (l : List Nd) (left : Int), leftL (l ++ [n]) left = if leftL l left < 0 then leftL l left else leftN n (leftL l left)
  | [], left => by
    rw [List.nil_append, leftL, leftL]
    split
    · rfl
    · rw [leftL]
  | m :: r, left => by
    rw [List.cons_append, leftL, leftL]
    by_cases h : left < 0
    · rw [if_pos h, if_pos h, if_pos h]
    · rw [if_neg h, if_neg h, leftL_snoc n r]
theorem leftL_take (l : List Nd) (k : Nat) (h : k < l.length) (left : Int) (hl : ¬ leftL (l.take k) left < 0) : leftL (l.take (k + 1)) left = leftN (at' l k) (leftL (l.take k) left) := by
  rw [List.take_add_one, List.getElem?_eq_getElem h, Option.toList_some, leftL_snoc, if_neg hl, at_eq h]
theorem leftL_cut (l : List Nd) (left : Int) : ∀ (k d : Nat), leftL (l.take k) left < 0 → leftL (l.take (k + d)) left = leftL (l.take k) left
  | k, 0, _ => rfl
  | k, d + 1, h => by
    rw [← Nat.add_assoc, List.take_add_one]
    by_cases hk : k + d < l.length
    · rw [List.getElem?_eq_getElem hk, Option.toList_some, leftL_snoc, leftL_cut l left k d h, if_pos h]
    · rw [List.getElem?_eq_none (by omega), Option.toList_none, List.append_nil, leftL_cut l left k d h]
mutual
theorem leftN_size : ∀ (n : Nd) (left : Int), 0 ≤ left → -1 ≤ leftN n left ∧ leftN n left ≤ left ∧ (0 ≤ leftN n left → leftN n left = left - sizeN n)
  | .mk k num name kids, left, h => by
    rw [leftN, sizeN]
    have := leftL_size kids (left - 1) (by omega)
    refine ⟨by omega, by omega, fun h0 => ?_⟩
    have := this.2.2 h0
    omega
theorem leftL_size : ∀ (l : List Nd) (left : Int), -1 ≤ left → -1 ≤ leftL l left ∧ leftL l left ≤ left ∧ (0 ≤ leftL l left → leftL l left = left - sizeL l)
  | [], left, h => by
    rw [leftL, sizeL]
    exact ⟨h, by omega, fun _ => by simp⟩
  | n :: r, left, h => by
    rw [leftL, sizeL]
    by_cases h0 : left < 0
    · rw [if_pos h0]
      exact ⟨h, by omega, fun _ => by omega⟩
    · rw [if_neg h0]
      have h1 := leftN_size n left (by omega)
      have h2 := leftL_size r (leftN n left) h1.1
      refine ⟨h2.1, by omega, fun h3 => ?_⟩
      have h4 := h2.2.2 h3
      have h5 := h1.2.2 (by omega)
      omega
end

set_option maxRecDepth 100000 in
set_option maxHeartbeats 3200000 in
theorem budget_upto (m : Nat) : ∀ (n : Nd) (left : Int) (v : Value) (A : Nat → Prop) (w : World), sizeN n ≤ m → 0 ≤ left → left ≤ 1000000 → NdAt A w v n →
    Calls Tryz.prog 33 #[v, .int .i64 left] w fun e w' => e = .returned (.int .i64 (leftN n left)) ∧ Below w.heap.size w w' := by
  induction m with
  | zero => intro n left v A w hm; have := size_pos n; omega
  | succ m ih =>
    intro n left v A w hm h0 h1 hv
    have IH := Lib.hid ih
    clear ih
    obtain ⟨hok, hlen, ka, kc, rfl, hk⟩ := hv.open
    have HS : Hid (∀ j, j < n.kids.length → sizeN (at' n.kids j) ≤ m) := Lib.hid (fun j hj => by have := size_kid n j hj; omega)
    have HE : Hid (leftN n left = leftL n.kids (left - 1)) := Lib.hid (by obtain ⟨a, b, c, d⟩ := n; rw [leftN]; rfl)
    clear hm
    unfold maxLen at hlen
    have hA : Below w.heap.size w (w.alloc (.cells #[.int .u8 n.kind, .int .i64 n.num, .string n.name, .slice ka n.kids.length kc] 35)) := (Below.refl _ _).alloc (Nat.le_refl _) _
    have hws : w.heap.size < (w.alloc (.cells #[.int .u8 n.kind, .int .i64 n.num, .string n.name, .slice ka n.kids.length kc] 35)).heap.size := by simp
    have HN := Lib.hid (cell_blk (at_new0 w (.cells #[.int .u8 n.kind, .int .i64 n.num, .string n.name, .slice ka n.kids.length kc] 35)) 3 rfl)
    have HK := Lib.hid (hk.stays (Stays.of_below hA))
    clear hv hk
    go_enter Tryz.func33, Tryz.ntmps33
    go_wp2
    generalize (w.alloc (.cells #[.int .u8 n.kind, .int .i64 n.num, .string n.name, .slice ka n.kids.length kc] 35)) = W at *
    go_loopw [1, 5] (fun s i wr => ∃ k : Nat, k ≤ n.kids.length ∧ i = .int .i64 k ∧ s = .int .i64 (leftL (n.kids.take k) (left - 1)) ∧ Below W.heap.size W wr) (fun _ i _ => n.kids.length - (intOf i).toNat)
    case atStart => exact ⟨0, Nat.zero_le _, rfl, by rw [List.take_zero, leftL], Below.refl _ _⟩
    case round =>
      obtain ⟨k, hkk, rfl, rfl, hbl⟩ := hrel
      have hz := hbl.size
      have hs1 := leftL_size (n.kids.take k) (left - 1) (by omega)
      have hs2 := hs1.1
      have hs3 := hs1.2.1
      clear hs1
      have b3 := (hbl.cell (p := ⟨w.heap.size, 3, none⟩) hws).trans HN.out
      by_cases hlt : k < n.kids.length
      · by_cases hneg : leftL (n.kids.take k) (left - 1) < 0
        · have HF : Hid (leftL n.kids (left - 1) = leftL (n.kids.take k) (left - 1)) := Lib.hid (by
            have := leftL_cut n.kids (left - 1) k (n.kids.length - k) hneg
            rwa [show k + (n.kids.length - k) = n.kids.length by omega, List.take_length] at this)
          have hge : ¬ 0 ≤ leftL (n.kids.take k) (left - 1) := by omega
          go_wp2
          go_ret
          rw [HE.out, HF.out]
          exact ⟨rfl, hA.trans (hbl.mono hA.size)⟩
        · obtain ⟨b, off, cap, ka', kc', he, hb, _, _, c0, c1, c2, c3, hnd⟩ := (HK.out.stays (Stays.of_below hbl)).at hlt
          simp only [Value.slice.injEq] at he
          obtain ⟨rfl, -, rfl⟩ := he
          have HT := Lib.hid (leftL_take n.kids k hlt (left - 1) hneg)
          have hge : 0 ≤ leftL (n.kids.take k) (left - 1) := by omega
          go_wp2_with fail
          refine (IH.out (at' n.kids k) _ _ A _ (HS.out k hlt) hge (by omega) hnd).mono ?_
          rintro e w2 ⟨rfl, hb2⟩
          have hB2 : Below W.heap.size W w2 := hbl.trans (hb2.mono hz)
          go_wp2
          go_roundw
          case rel => exact ⟨k + 1, by omega, by go_num, by rw [HT.out], hB2⟩
          case measure => simp [intOf]; omega
      · obtain rfl : k = n.kids.length := by omega
        have hlt' : ¬ (n.kids.length : Int) < (n.kids.length : Int) := by omega
        rw [List.take_length] at *
        go_wp2
        go_ret
        rw [HE.out]
        exact ⟨rfl, hA.trans (hbl.mono hA.size)⟩
end Go.Proofs.YtkemieppamdniaaGreatDoor
