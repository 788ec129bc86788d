/- Contracts and plain lemmas for the law (TreeB, TreeC, TreeD, TreeE, InvC, CgO, CgP, PDig, PNm, RefJ, LawA): no statement of the seat is proved here. -/
import Derived.Test.YtehmmokkjojggabGreatDoorZa10
/- Walks: equality of a tree with itself (package backstepref04), the budget of nodes (package backsteplaw40). -/
namespace Go.Proofs.YtehmmokkjojggabGreatDoor
set_option linter.unusedVariables false
open Go.RowKit

/-- the cells of a kid, at a box -/
theorem kid_cells {w : World} {b off k : Nat} {a b' c d : Value} (h0 : w.cell? ⟨b, off + k * 4, none⟩ = some a) (h1 : w.cell? ⟨b, off + k * 4 + 1, none⟩ = some b') (h2 : w.cell? ⟨b, off + k * 4 + 2, none⟩ = some c) (h3 : w.cell? ⟨b, off + k * 4 + 3, none⟩ = some d) :
    w.cell? ⟨b, off + k * 4, none⟩ = some a ∧ w.cell? ⟨b, off + k * 4 + 1, none⟩ = some b' ∧ w.cell? ⟨b, off + k * 4 + 2, none⟩ = some c ∧ w.cell? ⟨b, off + k * 4 + 3, none⟩ = some d := ⟨h0, h1, h2, h3⟩

set_option maxRecDepth 100000 in
set_option maxHeartbeats 3200000 in
theorem refEqual_upto (m : Nat) : ∀ (n : Nd) (v v' : Value) (A A' : Nat → Prop) (w : World), sizeN n ≤ m → NdAt A w v n → NdAt A' w v' n →
    Calls Tryz.prog 13 #[v, v'] w fun e w' => e = .returned (.bool true) ∧ Below w.heap.size w w' := by
  induction m with
  | zero => intro n v v' A A' w hm; have := size_pos n; omega
  | succ m ih =>
    intro n v v' A A' w hm hv hv'
    have IH := Lib.hid ih
    clear ih
    obtain ⟨hok, hlen, ka, kc, rfl, hk⟩ := hv.open
    obtain ⟨_, _, ka', kc', rfl, hk'⟩ := hv'.open
    have HS : Hid (∀ j, j < n.kids.length → sizeN (at' n.kids j) ≤ m) := Lib.hid (fun j hj => by have := size_kid n j hj; omega)
    clear hm
    unfold maxLen at hlen
    have hA1 : Below w.heap.size w (w.alloc (.cells #[.int .u8 n.kind, .int .i64 n.num, .string n.name, .slice ka n.kids.length kc] 35)) := (Below.refl _ _).alloc (Nat.le_refl _) _
    have hA : Below w.heap.size w ((w.alloc (.cells #[.int .u8 n.kind, .int .i64 n.num, .string n.name, .slice ka n.kids.length kc] 35)).alloc (.cells #[.int .u8 n.kind, .int .i64 n.num, .string n.name, .slice ka' n.kids.length kc'] 35)) := hA1.alloc hA1.size _
    have hws : w.heap.size + 1 < ((w.alloc (.cells #[.int .u8 n.kind, .int .i64 n.num, .string n.name, .slice ka n.kids.length kc] 35)).alloc (.cells #[.int .u8 n.kind, .int .i64 n.num, .string n.name, .slice ka' n.kids.length kc'] 35)).heap.size := by simp
    have HN := Lib.hid (cell_blk (show ((w.alloc (.cells #[.int .u8 n.kind, .int .i64 n.num, .string n.name, .slice ka n.kids.length kc] 35)).alloc (.cells #[.int .u8 n.kind, .int .i64 n.num, .string n.name, .slice ka' n.kids.length kc'] 35)).heap[w.heap.size]? = _ by rw [Below.heap_alloc _ _ _ (by simp)]; exact at_new0 w _) 3 rfl)
    have HN' := Lib.hid (cell_blk (at_new w (.cells #[.int .u8 n.kind, .int .i64 n.num, .string n.name, .slice ka n.kids.length kc] 35) (.cells #[.int .u8 n.kind, .int .i64 n.num, .string n.name, .slice ka' n.kids.length kc'] 35)) 3 rfl)
    have HK := Lib.hid (hk.stays (Stays.of_below hA))
    have HK' := Lib.hid (hk'.stays (Stays.of_below hA))
    clear hv hk hv' hk' hA1
    go_enter Tryz.func13, Tryz.ntmps13
    go_wp2
    generalize ((w.alloc (.cells #[.int .u8 n.kind, .int .i64 n.num, .string n.name, .slice ka n.kids.length kc] 35)).alloc (.cells #[.int .u8 n.kind, .int .i64 n.num, .string n.name, .slice ka' n.kids.length kc'] 35)) = W at *
    go_loopw [5] (fun i wr => ∃ k : Nat, k ≤ n.kids.length ∧ i = .int .i64 k ∧ Below W.heap.size W wr) (fun i _ => n.kids.length - (intOf i).toNat)
    case atStart => exact ⟨0, Nat.zero_le _, rfl, Below.refl _ _⟩
    case round =>
      obtain ⟨k, hkk, rfl, hbl⟩ := hrel
      have hz := hbl.size
      have b3 := (hbl.cell (p := ⟨w.heap.size, 3, none⟩) (Nat.lt_of_succ_lt hws)).trans HN.out
      have b3' := (hbl.cell (p := ⟨w.heap.size + 1, 3, none⟩) hws).trans HN'.out
      by_cases hlt : k < n.kids.length
      · obtain ⟨b, off, cap, kb, kd, he, hb, _, _, c0, c1, c2, c3, hnd⟩ := (HK.out.stays (Stays.of_below hbl)).at hlt
        obtain ⟨b', off', cap', kb', kd', he', hb', _, _, c0', c1', c2', c3', hnd'⟩ := (HK'.out.stays (Stays.of_below hbl)).at hlt
        simp only [Value.slice.injEq] at he he'
        obtain ⟨rfl, -, rfl⟩ := he
        obtain ⟨rfl, -, rfl⟩ := he'
        have HND := Lib.hid hnd
        have HND' := Lib.hid hnd'
        have i0 : (0 : Int) ≤ (k : Int) := by omega
        have i1 : (k : Int) < (n.kids.length : Int) := by omega
        have HSK := Lib.hid (HS.out k hlt)
        clear hnd hnd'
        go_wp2
        go_region_held3 (fun w1 => w1.cell? ⟨w.heap.size, 3, none⟩ = some (.slice (some ⟨b, off, none⟩) n.kids.length kc) ∧ w1.cell? ⟨w.heap.size + 1, 3, none⟩ = some (.slice (some ⟨b', off', none⟩) n.kids.length kc') ∧ w1.cell? ⟨b, off + k * 4, none⟩ = some (.int .u8 (at' n.kids k).kind) ∧ w1.cell? ⟨b, off + k * 4 + 1, none⟩ = some (.int .i64 (at' n.kids k).num) ∧ w1.cell? ⟨b, off + k * 4 + 2, none⟩ = some (.string (at' n.kids k).name) ∧ w1.cell? ⟨b, off + k * 4 + 3, none⟩ = some (.slice kb (at' n.kids k).kids.length kd) ∧ w1.cell? ⟨b', off' + k * 4, none⟩ = some (.int .u8 (at' n.kids k).kind) ∧ w1.cell? ⟨b', off' + k * 4 + 1, none⟩ = some (.int .i64 (at' n.kids k).num) ∧ w1.cell? ⟨b', off' + k * 4 + 2, none⟩ = some (.string (at' n.kids k).name) ∧ w1.cell? ⟨b', off' + k * 4 + 3, none⟩ = some (.slice kb' (at' n.kids k).kids.length kd'))
          (first | go_keep | exact ⟨(hb2.cell (p := ⟨w.heap.size, 3, none⟩) (Nat.lt_of_lt_of_le (Nat.lt_of_succ_lt hws) hz)).trans b3, (hb2.cell (p := ⟨w.heap.size + 1, 3, none⟩) (Nat.lt_of_lt_of_le hws hz)).trans b3', (hb2.cell (p := ⟨b, _, none⟩) hb).trans c0, (hb2.cell (p := ⟨b, _, none⟩) hb).trans c1, (hb2.cell (p := ⟨b, _, none⟩) hb).trans c2, (hb2.cell (p := ⟨b, _, none⟩) hb).trans c3, (hb2.cell (p := ⟨b', _, none⟩) hb').trans c0', (hb2.cell (p := ⟨b', _, none⟩) hb').trans c1', (hb2.cell (p := ⟨b', _, none⟩) hb').trans c2', (hb2.cell (p := ⟨b', _, none⟩) hb').trans c3'⟩)
          (first
          | (go_at_call 13; refine (IH.out (at' n.kids k) _ _ A A' _ HSK.out (HND.out.stays (Stays.of_below (below_drewN (Below.refl _ _) 1))) (HND'.out.stays (Stays.of_below (below_drewN (Below.refl _ _) 1)))).mono ?_; rintro e w2 ⟨rfl, hb2⟩))
        all_goals
          have hB2 : Below W.heap.size W w2 := hbl.trans ((show Below wr.heap.size wr w2 from (below_drewN (Below.refl _ _) 1).trans hb2).mono hz)
          go_wp2
          go_roundw
          case rel => exact ⟨k + 1, by omega, by go_num, hB2⟩
          case measure => simp [intOf]; omega
      · obtain rfl : k = n.kids.length := by omega
        have hlt' : ¬ (n.kids.length : Int) < (n.kids.length : Int) := by omega
        go_wp2
        go_ret
        exact ⟨rfl, hA.trans (hbl.mono hA.size)⟩
theorem refEqual_any (n : Nd) (v v' : Value) (A A' : Nat → Prop) (w : World) (hv : NdAt A w v n) (hv' : NdAt A' w v' n) : Calls Tryz.prog 13 #[v, v'] w fun e w' => e = .returned (.bool true) ∧ Below w.heap.size w w' := refEqual_upto _ n v v' A A' w (Nat.le_refl _) hv hv'

mutual
/-- what is left of a budget -/
def leftN : Nd → Int → Int
  | .mk _ _ _ kids, left => leftL kids (left - 1)
def leftL : List Nd → Int → Int
  | [], left => left
  | n :: r, left => if left < 0 then left else leftL r (leftN n left)
end
theorem leftL_neg {left : Int} (h : left < 0) : ∀ l : List Nd, leftL l left = left
  | [] => by rw [leftL]
  | n :: r => by rw [leftL, if_pos h]
theorem leftL_snoc (n : Nd) : ∀ (l : List Nd) (left : Int), leftL (l ++ [n]) left = if leftL l left < 0 then leftL l left else leftN n (leftL l left)
  | [], left => by
    rw [List.nil_append, leftL, leftL]
    split
    · rfl
    · rw [leftL]
  | m :: r, left => by
    rw [List.cons_append, leftL, leftL]
    by_cases h : left < 0
    · rw [if_pos h, if_pos h, if_pos h]
    · rw [if_neg h, if_neg h, leftL_snoc n r]
theorem leftL_take (l : List Nd) (k : Nat) (h : k < l.length) (left : Int) (hl : ¬ leftL (l.take k) left < 0) : leftL (l.take (k + 1)) left = leftN (at' l k) (leftL (l.take k) left) := by
  rw [List.take_add_one, List.getElem?_eq_getElem h, Option.toList_some, leftL_snoc, if_neg hl, at_eq h]
theorem leftL_cut (l : List Nd) (left : Int) : ∀ (k d : Nat), leftL (l.take k) left < 0 → leftL (l.take (k + d)) left = leftL (l.take k) left
  | k, 0, _ => rfl
  | k, d + 1, h => by
    rw [← Nat.add_assoc, List.take_add_one]
    by_cases hk : k + d < l.length
    · rw [List.getElem?_eq_getElem hk, Option.toList_some, leftL_snoc, leftL_cut l left k d h, if_pos h]
    · rw [List.getElem?_eq_none (by omega), Option.toList_none, List.append_nil, leftL_cut l left k d h]
mutual
theorem leftN_size : ∀ (n : Nd) (left : Int), 0 ≤ left → -1 ≤ leftN n left ∧ leftN n left ≤ left ∧ (0 ≤ leftN n left → leftN n left = left - sizeN n)
  | .mk k num name kids, left, h => by
    rw [leftN, sizeN]
    have := leftL_size kids (left - 1) (by omega)
    refine ⟨by omega, by omega, fun h0 => ?_⟩
    have := this.2.2 h0
    omega
theorem leftL_size : ∀ (l : List Nd) (left : Int), -1 ≤ left → -1 ≤ leftL l left ∧ leftL l left ≤ left ∧ (0 ≤ leftL l left → leftL l left = left - sizeL l)
  | [], left, h => by
    rw [leftL, sizeL]
    exact ⟨h, by omega, fun _ => by simp⟩
  | n :: r, left, h => by
    rw [leftL, sizeL]
    by_cases h0 : left < 0
    · rw [if_pos h0]
      exact ⟨h, by omega, fun _ => by omega⟩
    · rw [if_neg h0]
      have h1 := leftN_size n left (by omega)
      have h2 := leftL_size r (leftN n left) h1.1
      refine ⟨h2.1, by omega, fun h3 => ?_⟩
      have h4 := h2.2.2 h3
      have h5 := h1.2.2 (by omega)
      omega
end

set_option maxRecDepth 100000 in
set_option maxHeartbeats 3200000 in
theorem budget_upto (m : Nat) : ∀ (n : Nd) (left : Int) (v : Value) (A : Nat → Prop) (w : World), sizeN n ≤ m → 0 ≤ left → left ≤ 1000000 → NdAt A w v n →
    Calls Tryz.prog 35 #[v, .int .i64 left] w fun e w' => e = .returned (.int .i64 (leftN n left)) ∧ Below w.heap.size w w' := by
  induction m with
  | zero => intro n left v A w hm; have := size_pos n; omega
  | succ m ih =>
    intro n left v A w hm h0 h1 hv
    have IH := Lib.hid ih
    clear ih
    obtain ⟨hok, hlen, ka, kc, rfl, hk⟩ := hv.open
    have HS : Hid (∀ j, j < n.kids.length → sizeN (at' n.kids j) ≤ m) := Lib.hid (fun j hj => by have := size_kid n j hj; omega)
    have HE : Hid (leftN n left = leftL n.kids (left - 1)) := Lib.hid (by obtain ⟨a, b, c, d⟩ := n; rw [leftN]; rfl)
    clear hm
    unfold maxLen at hlen
    have hA : Below w.heap.size w (w.alloc (.cells #[.int .u8 n.kind, .int .i64 n.num, .string n.name, .slice ka n.kids.length kc] 35)) := (Below.refl _ _).alloc (Nat.le_refl _) _
    have hws : w.heap.size < (w.alloc (.cells #[.int .u8 n.kind, .int .i64 n.num, .string n.name, .slice ka n.kids.length kc] 35)).heap.size := by simp
    have HN := Lib.hid (cell_blk (at_new0 w (.cells #[.int .u8 n.kind, .int .i64 n.num, .string n.name, .slice ka n.kids.length kc] 35)) 3 rfl)
    have HK := Lib.hid (hk.stays (Stays.of_below hA))
    clear hv hk
    go_enter Tryz.func35, Tryz.ntmps35
    go_wp2
    generalize (w.alloc (.cells #[.int .u8 n.kind, .int .i64 n.num, .string n.name, .slice ka n.kids.length kc] 35)) = W at *
    go_loopw [1, 5] (fun s i wr => ∃ k : Nat, k ≤ n.kids.length ∧ i = .int .i64 k ∧ s = .int .i64 (leftL (n.kids.take k) (left - 1)) ∧ Below W.heap.size W wr) (fun _ i _ => n.kids.length - (intOf i).toNat)
    case atStart => exact ⟨0, Nat.zero_le _, rfl, by rw [List.take_zero, leftL], Below.refl _ _⟩
    case round =>
      obtain ⟨k, hkk, rfl, rfl, hbl⟩ := hrel
      have hz := hbl.size
      have hs1 := leftL_size (n.kids.take k) (left - 1) (by omega)
      have hs2 := hs1.1
      have hs3 := hs1.2.1
      clear hs1
      have b3 := (hbl.cell (p := ⟨w.heap.size, 3, none⟩) hws).trans HN.out
      by_cases hlt : k < n.kids.length
      · by_cases hneg : leftL (n.kids.take k) (left - 1) < 0
        · have HF : Hid (leftL n.kids (left - 1) = leftL (n.kids.take k) (left - 1)) := Lib.hid (by
            have := leftL_cut n.kids (left - 1) k (n.kids.length - k) hneg
            rwa [show k + (n.kids.length - k) = n.kids.length by omega, List.take_length] at this)
          have hge : ¬ 0 ≤ leftL (n.kids.take k) (left - 1) := by omega
          go_wp2
          go_ret
          rw [HE.out, HF.out]
          exact ⟨rfl, hA.trans (hbl.mono hA.size)⟩
        · obtain ⟨b, off, cap, ka', kc', he, hb, _, _, c0, c1, c2, c3, hnd⟩ := (HK.out.stays (Stays.of_below hbl)).at hlt
          simp only [Value.slice.injEq] at he
          obtain ⟨rfl, -, rfl⟩ := he
          have HT := Lib.hid (leftL_take n.kids k hlt (left - 1) hneg)
          have hge : 0 ≤ leftL (n.kids.take k) (left - 1) := by omega
          go_wp2_with fail
          refine (IH.out (at' n.kids k) _ _ A _ (HS.out k hlt) hge (by omega) hnd).mono ?_
          rintro e w2 ⟨rfl, hb2⟩
          have hB2 : Below W.heap.size W w2 := hbl.trans (hb2.mono hz)
          go_wp2
          go_roundw
          case rel => exact ⟨k + 1, by omega, by go_num, by rw [HT.out], hB2⟩
          case measure => simp [intOf]; omega
      · obtain rfl : k = n.kids.length := by omega
        have hlt' : ¬ (n.kids.length : Int) < (n.kids.length : Int) := by omega
        rw [List.take_length] at *
        go_wp2
        go_ret
        rw [HE.out]
        exact ⟨rfl, hA.trans (hbl.mono hA.size)⟩
end Go.Proofs.YtehmmokkjojggabGreatDoor
/- Walks: tests of trees that pass (package ast: kids, every, plain). -/
namespace Go.Proofs.YtehmmokkjojggabGreatDoor
set_option linter.unusedVariables false
open Go.RowKit

/-- a call of F enters F -/
def Enters (F : Nat) : Prop := ∀ (args : Array Value) (w : World), (callFunc F args).run Tryz.prog w = .ok (.enter F args) w
theorem enters_expr : Enters 102 := fun args w => by kernel_rfl
/-- the tree passes the test F -/
def Passes (F : Nat) (n : Nd) : Prop := ∀ (v : Value) (A : Nat → Prop) (w : World), NdAt A w v n → Calls Tryz.prog F #[v] w fun e w' => e = .returned (.bool true) ∧ Below w.heap.size w w'

theorem plain_true (n : Nd) (h1 : n.num = 0) (h2 : n.name = ByteArray.empty) : Passes 95 n := by
  intro v A w hv
  obtain ⟨hok, hlen, ka, kc, rfl, hk⟩ := hv.open
  rw [h1, h2]
  go_enter Tryz.func95, Tryz.ntmps95
  go_wp2
  go_ret
  exact ⟨rfl, (Below.refl _ _).alloc (Nat.le_refl _) _⟩

set_option maxRecDepth 100000 in
set_option maxHeartbeats 1600000 in
theorem every_true (F : Nat) (l : List Nd) (v : Value) (A : Nat → Prop) (w : World) (hv : KidsAt A w v l) (hF : Enters F) (hp : ∀ j, j < l.length → Passes F (at' l j)) :
    Calls Tryz.prog 96 #[v, .func (.func F) #[] #[]] w fun e w' => e = .returned (.bool true) ∧ Below w.heap.size w w' := by
  obtain ⟨hlen, ka, kc, rfl⟩ := hv.form
  have HP := Lib.hid hp
  have HV := Lib.hid hv
  unfold Enters at hF
  unfold maxLen at hlen
  clear hp hv
  go_enter Tryz.func96, Tryz.ntmps96
  go_wp2
  go_loopw [9] (fun i wr => ∃ k : Nat, k ≤ l.length ∧ i = .int .i64 k ∧ Below w.heap.size w wr) (fun i _ => l.length - (intOf i).toNat)
  case atStart => exact ⟨0, Nat.zero_le _, rfl, Below.refl _ _⟩
  case round =>
    obtain ⟨k, hkk, rfl, hbl⟩ := hrel
    have hz := hbl.size
    by_cases hlt : k < l.length
    · obtain ⟨b, off, cap, kb, kd, he, hb, _, _, c0, c1, c2, c3, hnd⟩ := (HV.out.stays (Stays.of_below hbl)).at hlt
      simp only [Value.slice.injEq] at he
      obtain ⟨rfl, -, rfl⟩ := he
      have hA2 : Below wr.heap.size wr (wr.alloc (.cells #[.int .u8 (at' l k).kind, .int .i64 (at' l k).num, .string (at' l k).name, .slice kb (at' l k).kids.length kd] 35)) := (Below.refl _ _).alloc (Nat.le_refl _) _
      have HND := Lib.hid (hnd.stays (Stays.of_below hA2))
      clear hnd
      go_wp2_with fail
      refine (HP.out k hlt _ A _ HND.out).mono ?_
      rintro e w2 ⟨rfl, hb2⟩
      have hB2 : Below w.heap.size w w2 := hbl.trans ((hA2.trans (hb2.mono hA2.size)).mono hz)
      go_wp2
      go_roundw
      case rel => exact ⟨k + 1, by omega, by go_num, hB2⟩
      case measure => simp [intOf]; omega
    · obtain rfl : k = l.length := by omega
      have hlt' : ¬ (l.length : Int) < (l.length : Int) := by omega
      go_wp2
      go_ret
      exact ⟨rfl, hbl⟩

set_option maxRecDepth 100000 in
set_option maxHeartbeats 1600000 in
theorem kids_true (n : Nd) (v : Value) (A : Nat → Prop) (w : World) (g : Nat) (fs : Nat → Nat) (hv : NdAt A w v n) (hg : g < w.heap.size) (hf : ∀ j, j < n.kids.length → w.cell? ⟨g, j, none⟩ = some (.func (.func (fs j)) #[] #[])) (hF : ∀ j, j < n.kids.length → Enters (fs j)) (hp : ∀ j, j < n.kids.length → Passes (fs j) (at' n.kids j)) :
    Calls Tryz.prog 100 #[v, .slice (some ⟨g, 0, none⟩) n.kids.length n.kids.length] w fun e w' => e = .returned (.bool true) ∧ Below w.heap.size w w' := by
  obtain ⟨hok, hlen, ka, kc, rfl, hk⟩ := hv.open
  unfold maxLen at hlen
  have hA : Below w.heap.size w (w.alloc (.cells #[.int .u8 n.kind, .int .i64 n.num, .string n.name, .slice ka n.kids.length kc] 35)) := (Below.refl _ _).alloc (Nat.le_refl _) _
  have hws : w.heap.size < (w.alloc (.cells #[.int .u8 n.kind, .int .i64 n.num, .string n.name, .slice ka n.kids.length kc] 35)).heap.size := by simp
  have HN := Lib.hid (cell_blk (at_new0 w (.cells #[.int .u8 n.kind, .int .i64 n.num, .string n.name, .slice ka n.kids.length kc] 35)) 3 rfl)
  have HK := Lib.hid (hk.stays (Stays.of_below hA))
  have HP := Lib.hid hp
  have HF : Hid (∀ j, j < n.kids.length → (w.alloc (.cells #[.int .u8 n.kind, .int .i64 n.num, .string n.name, .slice ka n.kids.length kc] 35)).cell? ⟨g, j, none⟩ = some (.func (.func (fs j)) #[] #[])) := Lib.hid (fun j hj => (hA.cell (p := ⟨g, j, none⟩) hg).trans (hf j hj))
  have hgw := Nat.lt_of_lt_of_le hg hA.size
  have HE := Lib.hid hF
  clear hv hk hp hf hF
  go_enter Tryz.func100, Tryz.ntmps100
  go_wp2
  generalize (w.alloc (.cells #[.int .u8 n.kind, .int .i64 n.num, .string n.name, .slice ka n.kids.length kc] 35)) = W at *
  go_loopw [15] (fun i wr => ∃ k : Nat, k ≤ n.kids.length ∧ i = .int .i64 k ∧ Below W.heap.size W wr) (fun i _ => n.kids.length - (intOf i).toNat)
  case atStart => exact ⟨0, Nat.zero_le _, rfl, Below.refl _ _⟩
  case round =>
    obtain ⟨k, hkk, rfl, hbl⟩ := hrel
    have hz := hbl.size
    have b3 := (hbl.cell (p := ⟨w.heap.size, 3, none⟩) hws).trans HN.out
    by_cases hlt : k < n.kids.length
    · obtain ⟨b, off, cap, kb, kd, he, hb, _, _, c0, c1, c2, c3, hnd⟩ := (HK.out.stays (Stays.of_below hbl)).at hlt
      simp only [Value.slice.injEq] at he
      obtain ⟨rfl, -, rfl⟩ := he
      have hE := HE.out k hlt
      unfold Enters at hE
      have d0 := (hbl.cell (p := ⟨g, k, none⟩) hgw).trans (HF.out k hlt)
      have HND := Lib.hid hnd
      clear hnd
      go_wp2_with fail
      refine (HP.out k hlt _ A _ HND.out).mono ?_
      rintro e w2 ⟨rfl, hb2⟩
      have hB2 : Below W.heap.size W w2 := hbl.trans (hb2.mono hz)
      go_wp2
      go_roundw
      case rel => exact ⟨k + 1, by omega, by go_num, hB2⟩
      case measure => simp [intOf]; omega
    · obtain rfl : k = n.kids.length := by omega
      have hlt' : ¬ (n.kids.length : Int) < (n.kids.length : Int) := by omega
      go_wp2
      go_ret
      exact ⟨rfl, hA.trans (hbl.mono hA.size)⟩
end Go.Proofs.YtehmmokkjojggabGreatDoor
/- Walks: good names (package lexer). -/
namespace Go.Proofs.YtehmmokkjojggabGreatDoor
set_option linter.unusedVariables false
open Go.RowKit

theorem letter_true (c : Int) (w : World) (h : 97 ≤ c ∧ c ≤ 122) : Calls Tryz.prog 142 #[.int .u8 c] w fun e w' => e = .returned (.bool true) ∧ w = w' := by
  obtain ⟨h1, h2⟩ := h
  go_enter Tryz.func142, Tryz.ntmps142
  go_wp2
  go_ret
  exact ⟨rfl, rfl⟩
theorem letter_false (c : Int) (w : World) (h : c < 97) : Calls Tryz.prog 142 #[.int .u8 c] w fun e w' => e = .returned (.bool false) ∧ w = w' := by
  have h1 : ¬ 97 ≤ c := by omega
  go_enter Tryz.func142, Tryz.ntmps142
  go_wp2
  go_ret
  exact ⟨rfl, rfl⟩
theorem digit_true (c : Int) (w : World) (h : 48 ≤ c ∧ c ≤ 57) : Calls Tryz.prog 145 #[.int .u8 c] w fun e w' => e = .returned (.bool true) ∧ w = w' := by
  obtain ⟨h1, h2⟩ := h
  go_enter Tryz.func145, Tryz.ntmps145
  go_wp2
  go_ret
  exact ⟨rfl, rfl⟩
theorem alnum_true (c : Int) (w : World) (h : 97 ≤ c ∧ c ≤ 122 ∨ 48 ≤ c ∧ c ≤ 57) : Calls Tryz.prog 144 #[.int .u8 c] w fun e w' => e = .returned (.bool true) ∧ w = w' := by
  rcases h with h | h
  · have HL := Lib.hid (letter_true c w h)
    clear h
    go_enter Tryz.func144, Tryz.ntmps144
    go_wp2_with (go_at_call 142; refine HL.out.mono ?_; rintro e w' ⟨rfl, rfl⟩)
    go_ret
    exact ⟨rfl, rfl⟩
  · have HL := Lib.hid (letter_false c w (by omega))
    have HD := Lib.hid (digit_true c w h)
    clear h
    go_enter Tryz.func144, Tryz.ntmps144
    go_wp2_with (first | (go_at_call 142; refine HL.out.mono ?_; rintro e w' ⟨rfl, rfl⟩) | (go_at_call 145; refine HD.out.mono ?_; rintro e w' ⟨rfl, rfl⟩))
    go_ret
    exact ⟨rfl, rfl⟩

/-- a good name -/
def NmOk (s : ByteArray) : Prop := 0 < s.size ∧ s.size ≤ 16 ∧ (∀ h : 0 < s.size, 97 ≤ s[0].toNat ∧ s[0].toNat ≤ 122) ∧ (∀ j (h : j < s.size), 97 ≤ s[j].toNat ∧ s[j].toNat ≤ 122 ∨ 48 ≤ s[j].toNat ∧ s[j].toNat ≤ 57) ∧ keyB s = false
theorem enters_alnum : Enters 144 := fun args w => by kernel_rfl

set_option maxHeartbeats 800000 in
theorem span_true (s : ByteArray) (w : World) (hs : s.size ≤ 16) (h : ∀ j (h : j < s.size), 97 ≤ s[j].toNat ∧ s[j].toNat ≤ 122 ∨ 48 ≤ s[j].toNat ∧ s[j].toNat ≤ 57) :
    Calls Tryz.prog 143 #[.string s, .func (.func 144) #[] #[]] w fun e w' => e = .returned (.int .i64 s.size) ∧ w = w' := by
  have H := Lib.hid h
  clear h
  go_enter Tryz.func143, Tryz.ntmps143
  go_wp2
  go_loop [8] (fun i => ∃ k : Nat, k ≤ s.size ∧ i = .int .i64 k) (fun i => s.size - (intOf i).toNat)
  case atStart => exact ⟨0, Nat.zero_le _, rfl⟩
  case round =>
    obtain ⟨k, hk, rfl⟩ := hrel
    by_cases hlt : k < s.size
    · have HA := Lib.hid (alnum_true (s[k].toNat : Int) w (by have := H.out k hlt; omega))
      go_wp2_with (go_at_call 144; refine HA.out.mono ?_; rintro e w' ⟨rfl, rfl⟩)
      go_round
      case rel => exact ⟨k + 1, by omega, by go_num⟩
      case measure => simp [intOf]; omega
    · obtain rfl : k = s.size := by omega
      have hlt' : ¬ (s.size : Int) < (s.size : Int) := by omega
      go_wp2
      go_ret
      exact ⟨rfl, rfl⟩

set_option maxHeartbeats 800000 in
theorem first_true (s : ByteArray) (w : World) (hn : NmOk s) :
    Calls Tryz.prog 136 #[.string s] w fun e w' => e = .returned (.tuple #[.int .u8 1, .int .i64 s.size]) ∧ w = w' := by
  obtain ⟨h1, h2, h3, h4, h5⟩ := hn
  have HL := Lib.hid (letter_true (s[0].toNat : Int) w (by have := h3 h1; omega))
  have HS := Lib.hid (span_true s w h2 h4)
  clear h3 h4 h5
  go_enter Tryz.func136, Tryz.ntmps136
  go_wp2_with (first | (go_at_call 142; refine HL.out.mono ?_; rintro e w' ⟨rfl, rfl⟩) | (go_at_call 143; refine HS.out.mono ?_; rintro e w' ⟨rfl, rfl⟩))
  go_ret2
  exact ⟨rfl, rfl⟩

set_option maxHeartbeats 800000 in
theorem name_true (s : ByteArray) (w : World) (hn : NmOk s) :
    Calls Tryz.prog 124 #[.string s] w fun e w' => e = .returned (.bool true) ∧ Below w.heap.size w w' := by
  have HF := Lib.hid (first_true s w hn)
  obtain ⟨h1, h2, h3, h4, h5⟩ := hn
  have HK := Lib.hid (keyword_any s w (by unfold maxLen; omega))
  have HKF := Lib.hid h5
  obtain ⟨he, he2⟩ := isEmpty_ne (s := s) (by omega)
  have hd : decide (16 < (s.size : Int)) = false := by simp; omega
  clear h3 h4 h5
  go_enter Tryz.func124, Tryz.ntmps124
  go_wp2_with (first | (go_at_call 136; refine HF.out.mono ?_; rintro e w' ⟨rfl, rfl⟩) | (go_at_call 119; refine HK.out.mono ?_; rintro e w1 ⟨rfl, hb1⟩; rw [HKF.out]))
  go_ret
  exact ⟨rfl, hb1⟩
theorem named_true (n : Nd) (h1 : n.num = 0) (h2 : NmOk n.name) : Passes 103 n := by
  intro v A w hv
  obtain ⟨hok, hlen, ka, kc, rfl, hk⟩ := hv.open
  rw [h1]
  have hA : Below w.heap.size w (w.alloc (.cells #[.int .u8 n.kind, .int .i64 0, .string n.name, .slice ka n.kids.length kc] 35)) := (Below.refl _ _).alloc (Nat.le_refl _) _
  have HN := Lib.hid (name_true n.name (w.alloc (.cells #[.int .u8 n.kind, .int .i64 0, .string n.name, .slice ka n.kids.length kc] 35)) h2)
  clear h2
  go_enter Tryz.func103, Tryz.ntmps103
  go_wp2_with (go_at_call 124; refine HN.out.mono ?_; rintro e w1 ⟨rfl, hb1⟩)
  go_ret
  exact ⟨rfl, hA.trans (hb1.mono hA.size)⟩
end Go.Proofs.YtehmmokkjojggabGreatDoor
/- Walks: expressions, places, statements and blocks that pass (package ast). -/
namespace Go.Proofs.YtehmmokkjojggabGreatDoor
set_option linter.unusedVariables false
open Go.RowKit

theorem enters_block : Enters 58 := fun args w => by kernel_rfl
theorem enters_place : Enters 101 := fun args w => by kernel_rfl
theorem enters_stmt : Enters 61 := fun args w => by kernel_rfl

theorem blk_belowT {w w' : World} {y : Obj} {g : Nat} (hb : Below w.heap.size w w') (h : w.heap[g]? = some y) : w'.heap[g]? = some y := by
  have hg : g < w.heap.size := by rw [Array.getElem?_eq_some_iff] at h; exact h.1
  rw [hb.block g hg]; exact h
theorem cells4T {w : World} {b e : Nat} {v0 v1 v2 v3 : Value} (h : w.heap[b]? = some (.cells #[v0, v1, v2, v3] e (0, 0))) :
    w.cell? ⟨b, 0, none⟩ = some v0 ∧ w.cell? ⟨b, 1, none⟩ = some v1 ∧ w.cell? ⟨b, 2, none⟩ = some v2 ∧ w.cell? ⟨b, 3, none⟩ = some v3 :=
  ⟨cell_blk h 0 rfl, cell_blk h 1 rfl, cell_blk h 2 rfl, cell_blk h 3 rfl⟩
theorem isExpr_num (x : Int) (hx : 0 ≤ x) : Passes 102 (.mk 1 x ByteArray.empty []) := by
  intro v A w hv
  obtain ⟨hok, hlen, ka, kc, rfl, hk⟩ := hv.open
  simp only [Nd.kind, Nd.num, Nd.name, Nd.kids, List.length_nil]
  clear hv hk hok hlen
  go_enter Tryz.func102, Tryz.ntmps102
  go_wp2
  go_ret
  exact ⟨rfl, (Below.refl _ _).alloc (Nat.le_refl _) _⟩

set_option maxHeartbeats 800000 in
theorem isExpr_leaf (k : Int) (s : ByteArray) (hk : k = 2 ∨ k = 4 ∨ k = 5) (hs : NmOk s) : Passes 102 (.mk k 0 s []) := by
  intro v A w hv
  obtain ⟨_, _, ka, kc, he, _⟩ := hv.open
  have hA : Below w.heap.size w (w.alloc (.cells #[.int .u8 k, .int .i64 0, .string s, .slice ka 0 kc] 35)) := (Below.refl _ _).alloc (Nat.le_refl _) _
  have he' : v = .agg #[.int .u8 k, .int .i64 0, .string s, .slice ka 0 kc] := he
  subst he'
  have HN := Lib.hid (named_true (.mk k 0 s []) rfl hs _ A _ (hv.stays (Stays.of_below hA)))
  clear he hv hs
  rcases hk with rfl | rfl | rfl
  all_goals
    go_enter Tryz.func102, Tryz.ntmps102
    go_wp2_with (go_at_call 103; refine HN.out.mono ?_; rintro e w1 ⟨rfl, hb1⟩; have hr := blk_belowT hb1 (at_new0 w _); have c3 := cell_blk hr 3 rfl; clear hr)
    go_ret
    exact ⟨rfl, hA.trans (hb1.mono hA.size)⟩
def TruePost (w : World) (e : Ending) (w' : World) : Prop := e = .returned (.bool true) ∧ Below w.heap.size w w'
theorem testK1 (n : Nd) (F0 T : Nat) (hl : n.kids.length = 1) (e0 : Enters F0) (p0 : Passes F0 (at' n.kids 0)) (v : Value) (A : Nat → Prop) (w : World) (hv : NdAt A w v n) :
    Calls Tryz.prog 100 #[v, .slice (some ⟨w.heap.size, 0, none⟩) 1 1] (w.alloc (.cells #[.func (.func F0) #[] #[]] T)) (TruePost w) := by
  have hA : Below w.heap.size w (w.alloc (.cells #[.func (.func F0) #[] #[]] T)) := (Below.refl _ _).alloc (Nat.le_refl _) _
  have h := kids_true n v A (w.alloc (.cells #[.func (.func F0) #[] #[]] T)) w.heap.size (fun _ => F0) (hv.stays (Stays.of_below hA)) (by simp) (fun j hj => by
    rw [hl] at hj
    match j, hj with
    | 0, _ => exact cell_blk (at_new0 w _) 0 rfl) (fun j hj => e0) (fun j hj => by
    rw [hl] at hj
    match j, hj with
    | 0, _ => exact p0)
  rw [hl] at h
  exact h.mono fun e w' ⟨h1, h2⟩ => ⟨h1, hA.trans (h2.mono hA.size)⟩
theorem testK2 (n : Nd) (F0 F1 T : Nat) (hl : n.kids.length = 2) (e0 : Enters F0) (e1 : Enters F1) (p0 : Passes F0 (at' n.kids 0)) (p1 : Passes F1 (at' n.kids 1)) (v : Value) (A : Nat → Prop) (w : World) (hv : NdAt A w v n) :
    Calls Tryz.prog 100 #[v, .slice (some ⟨w.heap.size, 0, none⟩) 2 2] (w.alloc (.cells #[.func (.func F0) #[] #[], .func (.func F1) #[] #[]] T)) (TruePost w) := by
  have hA : Below w.heap.size w (w.alloc (.cells #[.func (.func F0) #[] #[], .func (.func F1) #[] #[]] T)) := (Below.refl _ _).alloc (Nat.le_refl _) _
  have h := kids_true n v A (w.alloc (.cells #[.func (.func F0) #[] #[], .func (.func F1) #[] #[]] T)) w.heap.size (fun j => [F0, F1].getD j 0) (hv.stays (Stays.of_below hA)) (by simp) (fun j hj => by
    rw [hl] at hj
    match j, hj with
    | 0, _ => exact cell_blk (at_new0 w _) 0 rfl
    | 1, _ => exact cell_blk (at_new0 w _) 1 rfl) (fun j hj => by
    rw [hl] at hj
    match j, hj with
    | 0, _ => exact e0
    | 1, _ => exact e1) (fun j hj => by
    rw [hl] at hj
    match j, hj with
    | 0, _ => exact p0
    | 1, _ => exact p1)
  rw [hl] at h
  exact h.mono fun e w' ⟨h1, h2⟩ => ⟨h1, hA.trans (h2.mono hA.size)⟩
theorem testK3 (n : Nd) (F0 F1 F2 T : Nat) (hl : n.kids.length = 3) (e0 : Enters F0) (e1 : Enters F1) (e2 : Enters F2) (p0 : Passes F0 (at' n.kids 0)) (p1 : Passes F1 (at' n.kids 1)) (p2 : Passes F2 (at' n.kids 2)) (v : Value) (A : Nat → Prop) (w : World) (hv : NdAt A w v n) :
    Calls Tryz.prog 100 #[v, .slice (some ⟨w.heap.size, 0, none⟩) 3 3] (w.alloc (.cells #[.func (.func F0) #[] #[], .func (.func F1) #[] #[], .func (.func F2) #[] #[]] T)) (TruePost w) := by
  have hA : Below w.heap.size w (w.alloc (.cells #[.func (.func F0) #[] #[], .func (.func F1) #[] #[], .func (.func F2) #[] #[]] T)) := (Below.refl _ _).alloc (Nat.le_refl _) _
  have h := kids_true n v A (w.alloc (.cells #[.func (.func F0) #[] #[], .func (.func F1) #[] #[], .func (.func F2) #[] #[]] T)) w.heap.size (fun j => [F0, F1, F2].getD j 0) (hv.stays (Stays.of_below hA)) (by simp) (fun j hj => by
    rw [hl] at hj
    match j, hj with
    | 0, _ => exact cell_blk (at_new0 w _) 0 rfl
    | 1, _ => exact cell_blk (at_new0 w _) 1 rfl
    | 2, _ => exact cell_blk (at_new0 w _) 2 rfl) (fun j hj => by
    rw [hl] at hj
    match j, hj with
    | 0, _ => exact e0
    | 1, _ => exact e1
    | 2, _ => exact e2) (fun j hj => by
    rw [hl] at hj
    match j, hj with
    | 0, _ => exact p0
    | 1, _ => exact p1
    | 2, _ => exact p2)
  rw [hl] at h
  exact h.mono fun e w' ⟨h1, h2⟩ => ⟨h1, hA.trans (h2.mono hA.size)⟩

set_option maxRecDepth 100000 in
set_option maxHeartbeats 1600000 in
theorem isExpr_op (k : Int) (a b : Nd) (h0 : 8 ≤ k) (h1 : k ≤ 23) (pa : Passes 102 a) (pb : Passes 102 b) : Passes 102 (.mk k 0 ByteArray.empty [a, b]) := by
  intro v A w hv
  obtain ⟨_, _, ka, kc, he, _⟩ := hv.open
  have hA : Below w.heap.size w (w.alloc (.cells #[.int .u8 k, .int .i64 0, .string ⟨#[]⟩, .slice ka 2 kc] 35)) := (Below.refl _ _).alloc (Nat.le_refl _) _
  have he' : v = .agg #[.int .u8 k, .int .i64 0, .string ⟨#[]⟩, .slice ka 2 kc] := he
  subst he'
  have HV := Lib.hid hv
  have HN := Lib.hid (plain_true (.mk k 0 ByteArray.empty [a, b]) rfl rfl _ A _ (hv.stays (Stays.of_below hA)))
  have HP := Lib.hid (testK2 (.mk k 0 ByteArray.empty [a, b]) 102 102 68 rfl enters_expr enters_expr pa pb)
  have d1 : (k == 1) = false := by simp; omega
  have d2 : (k == 2) = false := by simp; omega
  have d3 : (k == 3) = false := by simp; omega
  have d4 : (k == 4) = false := by simp; omega
  have d5 : (k == 5) = false := by simp; omega
  have d6 : (k == 6) = false := by simp; omega
  have d7 : (k == 7) = false := by simp; omega
  clear he hv pa pb
  go_enter Tryz.func102, Tryz.ntmps102
  go_wp2_with (first
    | (go_at_call 95; refine HN.out.mono ?_; rintro e w1 ⟨rfl, hb1⟩; have hr := blk_belowT hb1 (at_new0 w _); obtain ⟨c0, c1, c2, c3⟩ := cells4T hr; clear hr)
    | (go_at_call 100; refine (HP.out _ A w1 (HV.out.stays (Stays.of_below (hA.trans (hb1.mono hA.size))))).mono ?_; rintro e w2 ⟨rfl, hb2⟩))
  go_ret
  exact ⟨rfl, hA.trans ((hb1.trans (hb2.mono hb1.size)).mono hA.size)⟩

set_option maxHeartbeats 800000 in
theorem isPlace_v (s : ByteArray) (hs : NmOk s) : Passes 101 (.mk 2 0 s []) := by
  intro v A w hv
  obtain ⟨_, _, ka, kc, he, _⟩ := hv.open
  have hA : Below w.heap.size w (w.alloc (.cells #[.int .u8 2, .int .i64 0, .string s, .slice ka 0 kc] 35)) := (Below.refl _ _).alloc (Nat.le_refl _) _
  have he' : v = .agg #[.int .u8 2, .int .i64 0, .string s, .slice ka 0 kc] := he
  subst he'
  have HN := Lib.hid (isExpr_leaf 2 s (.inl rfl) hs _ A _ (hv.stays (Stays.of_below hA)))
  clear he hv hs
  go_enter Tryz.func101, Tryz.ntmps101
  go_wp2_with (go_at_call 102; refine HN.out.mono ?_; rintro e w1 ⟨rfl, hb1⟩)
  go_ret
  exact ⟨rfl, hA.trans (hb1.mono hA.size)⟩

set_option maxRecDepth 100000 in
set_option maxHeartbeats 1600000 in
theorem isStmt_plus (k : Int) (a b : Nd) (hk : k = 40 ∨ k = 42) (pa : Passes 101 a) (pb : Passes 102 b) : Passes 61 (.mk k 0 ByteArray.empty [a, b]) := by
  intro v A w hv
  obtain ⟨_, _, ka, kc, he, _⟩ := hv.open
  have hA : Below w.heap.size w (w.alloc (.cells #[.int .u8 k, .int .i64 0, .string ⟨#[]⟩, .slice ka 2 kc] 35)) := (Below.refl _ _).alloc (Nat.le_refl _) _
  have he' : v = .agg #[.int .u8 k, .int .i64 0, .string ⟨#[]⟩, .slice ka 2 kc] := he
  subst he'
  have HV := Lib.hid hv
  have HN := Lib.hid (plain_true (.mk k 0 ByteArray.empty [a, b]) rfl rfl _ A _ (hv.stays (Stays.of_below hA)))
  have HP := Lib.hid (testK2 (.mk k 0 ByteArray.empty [a, b]) 101 102 68 rfl enters_place enters_expr pa pb)
  clear he hv pa pb
  rcases hk with rfl | rfl
  all_goals
    go_enter Tryz.func61, Tryz.ntmps61
    go_wp2_with (first
      | (go_at_call 95; refine HN.out.mono ?_; rintro e w1 ⟨rfl, hb1⟩; have hr := blk_belowT hb1 (at_new0 w _); obtain ⟨c0, c1, c2, c3⟩ := cells4T hr; clear hr)
      | (go_at_call 100; refine (HP.out _ A w1 (HV.out.stays (Stays.of_below (hA.trans (hb1.mono hA.size))))).mono ?_; rintro e w2 ⟨rfl, hb2⟩))
    go_ret
    exact ⟨rfl, hA.trans ((hb1.trans (hb2.mono hb1.size)).mono hA.size)⟩

set_option maxRecDepth 100000 in
set_option maxHeartbeats 1600000 in
theorem isStmt_push (k : Int) (s : ByteArray) (a : Nd) (hk : k = 44 ∨ k = 45) (hs : NmOk s) (pa : Passes 101 a) : Passes 61 (.mk k 0 s [a]) := by
  intro v A w hv
  obtain ⟨_, _, ka, kc, he, _⟩ := hv.open
  have hA : Below w.heap.size w (w.alloc (.cells #[.int .u8 k, .int .i64 0, .string s, .slice ka 1 kc] 35)) := (Below.refl _ _).alloc (Nat.le_refl _) _
  have he' : v = .agg #[.int .u8 k, .int .i64 0, .string s, .slice ka 1 kc] := he
  subst he'
  have HV := Lib.hid hv
  have HN := Lib.hid (named_true (.mk k 0 s [a]) rfl hs _ A _ (hv.stays (Stays.of_below hA)))
  have HP := Lib.hid (testK1 (.mk k 0 s [a]) 101 68 rfl enters_place pa)
  clear he hv pa hs
  rcases hk with rfl | rfl
  all_goals
    go_enter Tryz.func61, Tryz.ntmps61
    go_wp2_with (first
      | (go_at_call 103; refine HN.out.mono ?_; rintro e w1 ⟨rfl, hb1⟩; have hr := blk_belowT hb1 (at_new0 w _); obtain ⟨c0, c1, c2, c3⟩ := cells4T hr; clear hr)
      | (go_at_call 100; refine (HP.out _ A w1 (HV.out.stays (Stays.of_below (hA.trans (hb1.mono hA.size))))).mono ?_; rintro e w2 ⟨rfl, hb2⟩))
    go_ret
    exact ⟨rfl, hA.trans ((hb1.trans (hb2.mono hb1.size)).mono hA.size)⟩

set_option maxRecDepth 100000 in
set_option maxHeartbeats 1600000 in
theorem isStmt_local (s : ByteArray) (a b c : Nd) (hs : NmOk s) (pa : Passes 102 a) (pb : Passes 58 b) (pc : Passes 102 c) : Passes 61 (.mk 54 0 s [a, b, c]) := by
  intro v A w hv
  obtain ⟨_, _, ka, kc, he, _⟩ := hv.open
  have hA : Below w.heap.size w (w.alloc (.cells #[.int .u8 54, .int .i64 0, .string s, .slice ka 3 kc] 35)) := (Below.refl _ _).alloc (Nat.le_refl _) _
  have he' : v = .agg #[.int .u8 54, .int .i64 0, .string s, .slice ka 3 kc] := he
  subst he'
  have HV := Lib.hid hv
  have HN := Lib.hid (named_true (.mk 54 0 s [a, b, c]) rfl hs _ A _ (hv.stays (Stays.of_below hA)))
  have HP := Lib.hid (testK3 (.mk 54 0 s [a, b, c]) 102 58 102 68 rfl enters_expr enters_block enters_expr pa pb pc)
  clear he hv pa pb pc hs
  go_enter Tryz.func61, Tryz.ntmps61
  go_wp2_with (first
    | (go_at_call 103; refine HN.out.mono ?_; rintro e w1 ⟨rfl, hb1⟩; have hr := blk_belowT hb1 (at_new0 w _); obtain ⟨c0, c1, c2, c3⟩ := cells4T hr; clear hr)
    | (go_at_call 100; refine (HP.out _ A w1 (HV.out.stays (Stays.of_below (hA.trans (hb1.mono hA.size))))).mono ?_; rintro e w2 ⟨rfl, hb2⟩))
  go_ret
  exact ⟨rfl, hA.trans ((hb1.trans (hb2.mono hb1.size)).mono hA.size)⟩

set_option maxRecDepth 100000 in
set_option maxHeartbeats 1600000 in
theorem isBlock_true (l : List Nd) (pl : ∀ j, j < l.length → Passes 61 (at' l j)) : Passes 58 (.mk 57 0 ByteArray.empty l) := by
  intro v A w hv
  obtain ⟨_, hlen, ka, kc, he, hk⟩ := hv.open
  have hA : Below w.heap.size w (w.alloc (.cells #[.int .u8 57, .int .i64 0, .string ⟨#[]⟩, .slice ka l.length kc] 35)) := (Below.refl _ _).alloc (Nat.le_refl _) _
  have he' : v = .agg #[.int .u8 57, .int .i64 0, .string ⟨#[]⟩, .slice ka l.length kc] := he
  subst he'
  have HK : Hid (KidsAt A w (.slice ka l.length kc) l) := Lib.hid hk
  have HN := Lib.hid (plain_true (.mk 57 0 ByteArray.empty l) rfl rfl _ A _ (hv.stays (Stays.of_below hA)))
  have HP := Lib.hid pl
  have HES := Lib.hid enters_stmt
  clear he hv pl hk hlen
  go_enter Tryz.func58, Tryz.ntmps58
  go_wp2_with (first
    | (go_at_call 95; refine HN.out.mono ?_; rintro e w1 ⟨rfl, hb1⟩; have hr := blk_belowT hb1 (at_new0 w _); obtain ⟨c0, c1, c2, c3⟩ := cells4T hr; clear hr)
    | (go_at_call 96; refine (every_true 61 l _ A w1 (HK.out.stays (Stays.of_below (hA.trans (hb1.mono hA.size)))) HES.out HP.out).mono ?_; rintro e w2 ⟨rfl, hb2⟩))
  go_ret
  exact ⟨rfl, hA.trans ((hb1.trans (hb2.mono hb1.size)).mono hA.size)⟩
end Go.Proofs.YtehmmokkjojggabGreatDoor
/- Walks of package inverter: Stmt, at the statements of a bind. -/
namespace Go.Proofs.YtehmmokkjojggabGreatDoor
set_option linter.unusedVariables false
open Go.RowKit

/-- invert turns n into R -/
def Inverts (n R : Nd) : Prop := ∀ (v : Value) (A : Nat → Prop) (w : World), NdAt A w v n → Calls Tryz.prog 60 #[v, .bool false] w (CopyPost R w)

/-- a statement without blocks -/
theorem inverts_flat (k k' : Int) (num : Int) (name : ByteArray) (kids : List Nd) (hl : kids.length ≤ 3) (hk : k = 40 ∧ k' = 41 ∨ k = 44 ∧ k' = 45 ∨ k = 45 ∧ k' = 44) (hb : ∀ j, j < kids.length → (at' kids j).kind ≠ 57 ∧ sizeN (at' kids j) ≤ 100000) : Inverts (.mk k num name kids) (.mk k' num name kids) := by
  intro v A w hv
  refine invert_walk (.mk k num name kids) _ v A w kids hv rfl hl (Lib.hid fun j hj h => ?_) (Lib.hid fun j hj _ => ⟨rfl, (hb j hj).2⟩) (Lib.hid (.inr (.inr ⟨k', hk, rfl⟩)))
  rcases h with h | h
  · have h' : k = 57 := h
    omega
  · exact absurd h (hb j hj).1
/-- a block of one statement -/
theorem inverts_block (num : Int) (name : ByteArray) (s s' : Nd) (h : Inverts s s') : Inverts (.mk 57 num name [s]) (.mk 57 num name [s']) := by
  intro v A w hv
  refine invert_walk (.mk 57 num name [s]) _ v A w [s'] hv rfl (by show 1 ≤ 3; omega) (Lib.hid fun j hj _ => ?_) (Lib.hid fun j hj hn => absurd (.inl rfl) hn) (Lib.hid (.inl ⟨rfl, rfl, rfl⟩))
  match j, hj with
  | 0, _ => exact h
/-- a local around a block -/
theorem inverts_local (num : Int) (name : ByteArray) (a b b' c : Nd) (ha : a.kind ≠ 57) (hb : b.kind = 57) (hc : c.kind ≠ 57) (sa : sizeN a ≤ 100000) (sc : sizeN c ≤ 100000) (h : Inverts b b') : Inverts (.mk 54 num name [a, b, c]) (.mk 54 num name [c, b', a]) := by
  intro v A w hv
  refine invert_walk (.mk 54 num name [a, b, c]) _ v A w [a, b', c] hv rfl (by show 3 ≤ 3; omega) (Lib.hid fun j hj hn => ?_) (Lib.hid fun j hj hn => ?_) (Lib.hid (.inr (.inl ⟨rfl, rfl, rfl⟩)))
  · match j, hj with
    | 0, _ =>
      rcases hn with hn | hn
      · have : (54 : Int) = 57 := hn
        omega
      · exact absurd hn ha
    | 1, _ => exact h
    | 2, _ =>
      rcases hn with hn | hn
      · have : (54 : Int) = 57 := hn
        omega
      · exact absurd hn hc
  · match j, hj with
    | 0, _ => exact ⟨rfl, sa⟩
    | 1, _ => exact absurd (.inr hb) hn
    | 2, _ => exact ⟨rfl, sc⟩

set_option maxRecDepth 100000 in
set_option maxHeartbeats 3200000 in
theorem stmt_C (n R : Nd) (v : Value) (A : Nat → Prop) (w : World) (hv : NdAt A w v n) (hp : Passes 61 n) (hi : Inverts n R) :
    Calls Tryz.prog 24 #[v] w fun e w' => ∃ ka kc, e = .returned (.tuple #[.agg #[.int .u8 R.kind, .int .i64 R.num, .string R.name, .slice ka R.kids.length kc], .int .i64 0]) ∧ NdAt (Up w.heap.size) w' (.agg #[.int .u8 R.kind, .int .i64 R.num, .string R.name, .slice ka R.kids.length kc]) R ∧ Below w.heap.size w w' := by
  obtain ⟨hok, hlen, ka, kc, rfl, hk⟩ := hv.open
  have hA1 : Below w.heap.size w (w.alloc (.cells #[.int .u8 n.kind, .int .i64 n.num, .string n.name, .slice ka n.kids.length kc] 35)) := (Below.refl _ _).alloc (Nat.le_refl _) _
  have hA : Below w.heap.size w ((w.alloc (.cells #[.int .u8 n.kind, .int .i64 n.num, .string n.name, .slice ka n.kids.length kc] 35)).alloc (.cells #[.int .u8 0, .int .i64 0, .string ⟨#[]⟩, .slice none 0 0] 35)) := hA1.alloc hA1.size _
  have HX := Lib.hid (at_old w (.cells #[.int .u8 n.kind, .int .i64 n.num, .string n.name, .slice ka n.kids.length kc] 35) (.cells #[.int .u8 0, .int .i64 0, .string ⟨#[]⟩, .slice none 0 0] 35))
  have HZ := Lib.hid (at_new w (.cells #[.int .u8 n.kind, .int .i64 n.num, .string n.name, .slice ka n.kids.length kc] 35) (.cells #[.int .u8 0, .int .i64 0, .string ⟨#[]⟩, .slice none 0 0] 35))
  have HSZ : Hid (((w.alloc (.cells #[.int .u8 n.kind, .int .i64 n.num, .string n.name, .slice ka n.kids.length kc] 35)).alloc (.cells #[.int .u8 0, .int .i64 0, .string ⟨#[]⟩, .slice none 0 0] 35)).heap.size = w.heap.size + 1 + 1) := Lib.hid (by simp)
  have HV := Lib.hid (hv.stays (Stays.of_below hA))
  have HP := Lib.hid (hp _ A _ HV.out)
  have HI := Lib.hid hi
  clear hv hk hp hi hA1 hok hlen
  go_enter Tryz.func24, Tryz.ntmps24
  go_wp2_with fail
  generalize ((w.alloc (.cells #[.int .u8 n.kind, .int .i64 n.num, .string n.name, .slice ka n.kids.length kc] 35)).alloc (.cells #[.int .u8 0, .int .i64 0, .string ⟨#[]⟩, .slice none 0 0] 35)) = W at *
  refine HP.out.mono ?_
  rintro e w1 ⟨rfl, hb1⟩
  obtain ⟨r0, r1, r2, r3⟩ := cells4 (blk_below hb1 HX.out)
  have HIW := Lib.hid (HI.out _ A w1 (HV.out.stays (Stays.of_below hb1)))
  go_wp2_with (go_at_call 60; refine HIW.out.mono ?_; rintro e w2 ⟨xa, xc, rfl, hx2, hb2⟩; have hr := blk_below hb2 (blk_below hb1 HZ.out); obtain ⟨z0, z1, z2, z3⟩ := cells4 hr; have f := unfrozen hr; have HR := Lib.hid hr; have HX2 := Lib.hid hx2; clear hr hx2)
  (try simp only [Exit.inBlock, Exit.then])
  refine bodyPost_ret (results_cell_row2 (P := Tryz.prog) rfl _ _ (w.heap.size + 1) _ _ _ _ _ rfl (set4 HR.out _ _ _ _) rfl Tryz.underlying35 rfl (by kernel_rfl)) rfl ?_
  have hB2 : Below w.heap.size w w2 := hA.trans ((hb1.trans (hb2.mono hb1.size)).mono hA.size)
  have hz1 := hb1.size
  have hzz := HSZ.out
  have hK4 := (((keeps_set w2 (w.heap.size + 1) 0 (.int .u8 R.kind)).same (keeps_set _ (w.heap.size + 1) 1 (.int .i64 R.num))).same (keeps_set _ (w.heap.size + 1) 2 (.string R.name))).same (keeps_set _ (w.heap.size + 1) 3 (.slice xa R.kids.length xc))
  refine ⟨_, _, rfl, ?_, bel_sets4 hB2 (by omega)⟩
  exact HX2.out.stays ⟨hK4.size, fun b hb a => ⟨hK4.block b hb (fun e => by have : w1.heap.size ≤ b := a; omega), by have : w1.heap.size ≤ b := a; unfold Up; omega⟩⟩
end Go.Proofs.YtehmmokkjojggabGreatDoor
/- Walks of package cleangen: inverse, at a statement and at a block. -/
namespace Go.Proofs.YtehmmokkjojggabGreatDoor
set_option linter.unusedVariables false
open Go.RowKit

/-- what inverse leaves -/
def InvPost (R : Nd) (A : Nat → Prop) (w : World) (e : Ending) (w' : World) : Prop := ∃ ka kc, e = .returned (.agg #[.int .u8 R.kind, .int .i64 R.num, .string R.name, .slice ka R.kids.length kc]) ∧ NdAt (NewB A w) w' (.agg #[.int .u8 R.kind, .int .i64 R.num, .string R.name, .slice ka R.kids.length kc]) R ∧ Below w.heap.size w w'
def InvOk (n R : Nd) : Prop := ∀ (v : Value) (A : Nat → Prop) (w : World), NdAt A w v n → Calls Tryz.prog 46 #[v] w (InvPost R A w)

set_option maxRecDepth 100000 in
set_option maxHeartbeats 3200000 in
theorem inverse_stmt (n R : Nd) (h57 : n.kind ≠ 57) (h52 : n.kind ≠ 52) (h50 : n.kind ≠ 50) (hp : Passes 61 n) (hi : Inverts n R) : InvOk n R := by
  intro v A w hv
  obtain ⟨hok, hlen, ka, kc, rfl, hk⟩ := hv.open
  have hA1 : Below w.heap.size w (w.alloc (.cells #[.int .u8 n.kind, .int .i64 n.num, .string n.name, .slice ka n.kids.length kc] 35)) := (Below.refl _ _).alloc (Nat.le_refl _) _
  have hA : Below w.heap.size w ((w.alloc (.cells #[.int .u8 n.kind, .int .i64 n.num, .string n.name, .slice ka n.kids.length kc] 35)).alloc (.cells #[.int .u8 0, .int .i64 0, .string ⟨#[]⟩, .slice none 0 0] 35)) := hA1.alloc hA1.size _
  have HZ := Lib.hid (at_new w (.cells #[.int .u8 n.kind, .int .i64 n.num, .string n.name, .slice ka n.kids.length kc] 35) (.cells #[.int .u8 0, .int .i64 0, .string ⟨#[]⟩, .slice none 0 0] 35))
  have HSZ : Hid (((w.alloc (.cells #[.int .u8 n.kind, .int .i64 n.num, .string n.name, .slice ka n.kids.length kc] 35)).alloc (.cells #[.int .u8 0, .int .i64 0, .string ⟨#[]⟩, .slice none 0 0] 35)).heap.size = w.heap.size + 1 + 1) := Lib.hid (by simp)
  have HS := Lib.hid (stmt_C n R _ A _ (hv.stays (Stays.of_below hA)) hp hi)
  have d57 : (n.kind == 57) = false := by simp [h57]
  have d52 : (n.kind == 52) = false := by simp [h52]
  have d50 : (n.kind == 50) = false := by simp [h50]
  clear hv hk hp hi hA1 hok hlen h57 h52 h50
  go_enter Tryz.func46, Tryz.ntmps46
  go_wp2_with fail
  generalize ((w.alloc (.cells #[.int .u8 n.kind, .int .i64 n.num, .string n.name, .slice ka n.kids.length kc] 35)).alloc (.cells #[.int .u8 0, .int .i64 0, .string ⟨#[]⟩, .slice none 0 0] 35)) = W at *
  refine HS.out.mono ?_
  rintro e w1 ⟨xa, xc, rfl, hx1, hb1⟩
  have hr := blk_below hb1 HZ.out
  obtain ⟨z0, z1, z2, z3⟩ := cells4 hr
  have f := unfrozen hr
  have HR := Lib.hid hr
  have HX1 := Lib.hid hx1
  have hlt : w.heap.size + 1 < w1.heap.size := by have := hb1.size; have := HSZ.out; omega
  clear hr hx1
  go_wp2
  (try simp only [Exit.inBlock, Exit.then])
  refine bodyPost_ret (results_cell_row (P := Tryz.prog) rfl _ _ (w.heap.size + 1) _ _ _ _ rfl (blk_alloc (set4 HR.out _ _ _ _)) Tryz.underlying35 rfl (by kernel_rfl)) rfl ?_
  have hB1 : Below w.heap.size w w1 := hA.trans (hb1.mono hA.size)
  have hz1 := hb1.size
  have hzz := HSZ.out
  have hK4 := (((keeps_set w1 (w.heap.size + 1) 0 (.int .u8 R.kind)).same (keeps_set _ (w.heap.size + 1) 1 (.int .i64 R.num))).same (keeps_set _ (w.heap.size + 1) 2 (.string R.name))).same (keeps_set _ (w.heap.size + 1) 3 (.slice xa R.kids.length xc))
  have hK5 := hK4.alloc (.cells #[.int .u8 R.kind, .int .i64 R.num, .string R.name, .slice xa R.kids.length xc] 35)
  refine ⟨_, _, rfl, ?_, bel_alloc (bel_sets4 hB1 (by omega))⟩
  exact HX1.out.stays ⟨hK5.size, fun b hb a => ⟨hK5.block b hb (fun e => by have : W.heap.size ≤ b := a; omega), .inr (by have : W.heap.size ≤ b := a; omega)⟩⟩
end Go.Proofs.YtehmmokkjojggabGreatDoor
/- Walks of package cleangen: inverse, at a block. -/
namespace Go.Proofs.YtehmmokkjojggabGreatDoor
set_option linter.unusedVariables false
open Go.RowKit

theorem rev_drop (l : List Nd) (q : Nat) (h : q < l.length) : (l.drop q).reverse = (l.drop (q + 1)).reverse ++ [at' l q] := by
  rw [List.drop_eq_getElem_cons h, List.reverse_cons, at_eq h]

set_option maxRecDepth 100000 in
set_option maxHeartbeats 3200000 in
theorem inverse_block (num : Int) (name : ByteArray) (l l' : List Nd) (hl : l'.length = l.length) (hn : l.length ≤ 100000) (HI : Hid (∀ j, j < l.length → InvOk (at' l j) (at' l' j))) : InvOk (.mk 57 num name l) (blockN l'.reverse) := by
  intro v A w hv
  obtain ⟨hok, hlen, ka, kc, he, hk⟩ := hv.open
  have he' : v = .agg #[.int .u8 57, .int .i64 num, .string name, .slice ka l.length kc] := he
  subst he'
  have hkw : KidsAt A w (.slice ka l.length kc) l := hk
  have hA1 : Below w.heap.size w (w.alloc (.cells #[.int .u8 57, .int .i64 num, .string name, .slice ka l.length kc] 35)) := (Below.refl _ _).alloc (Nat.le_refl _) _
  have hA : Below w.heap.size w ((w.alloc (.cells #[.int .u8 57, .int .i64 num, .string name, .slice ka l.length kc] 35)).alloc (.cells #[.int .u8 0, .int .i64 0, .string ⟨#[]⟩, .slice none 0 0] 35)) := hA1.alloc hA1.size _
  have HX := Lib.hid (at_old w (.cells #[.int .u8 57, .int .i64 num, .string name, .slice ka l.length kc] 35) (.cells #[.int .u8 0, .int .i64 0, .string ⟨#[]⟩, .slice none 0 0] 35))
  have HZ := Lib.hid (at_new w (.cells #[.int .u8 57, .int .i64 num, .string name, .slice ka l.length kc] 35) (.cells #[.int .u8 0, .int .i64 0, .string ⟨#[]⟩, .slice none 0 0] 35))
  have HSZ : Hid (((w.alloc (.cells #[.int .u8 57, .int .i64 num, .string name, .slice ka l.length kc] 35)).alloc (.cells #[.int .u8 0, .int .i64 0, .string ⟨#[]⟩, .slice none 0 0] 35)).heap.size = w.heap.size + 1 + 1) := Lib.hid (by simp)
  have HK : Hid (KidsAt (fun j => A j ∧ j < w.heap.size) ((w.alloc (.cells #[.int .u8 57, .int .i64 num, .string name, .slice ka l.length kc] 35)).alloc (.cells #[.int .u8 0, .int .i64 0, .string ⟨#[]⟩, .slice none 0 0] 35)) (.slice ka l.length kc) l) := Lib.hid (hkw.stays ⟨hA.size, fun b hb a => ⟨hA.block b hb, a, hb⟩⟩)
  have HL := Lib.hid hl
  clear hv hk hkw hA1 hok hlen he hl
  go_enter Tryz.func46, Tryz.ntmps46
  go_wp2
  generalize ((w.alloc (.cells #[.int .u8 57, .int .i64 num, .string name, .slice ka l.length kc] 35)).alloc (.cells #[.int .u8 0, .int .i64 0, .string ⟨#[]⟩, .slice none 0 0] 35)) = W at *
  go_loopw [4, 3] (fun i v wr => ∃ (j : Int) (rl : List Nd), i = .int .i64 j ∧ -1 ≤ j ∧ j < l.length ∧ rl = (l'.drop (j + 1).toNat).reverse ∧ Below W.heap.size W wr ∧ RowsOwn NdE 35 (LD A w) W.heap.size wr v rl) (fun i _ _ => (intOf i + 1).toNat)
  case atStart => exact ⟨_, [], rfl, by omega, by omega, by rw [show ((l.length : Int) - 1 + 1).toNat = l'.length by have := HL.out; omega, List.drop_length]; rfl, Below.refl _ _, RowsOwn.nil _ _ _ _ _⟩
  case round =>
    obtain ⟨j, rl, rfl, hj0, hj1, hrl, hbl, hown⟩ := hrel
    have HRL := Lib.hid hrl
    clear hrl
    obtain ⟨va, vc, rfl⟩ := hown.form
    have HOWN := Lib.hid hown
    have hr := blk_below hbl HX.out
    obtain ⟨r0, r1, r2, r3⟩ := cells4 hr
    have hszl := hbl.size
    have hzz : w.heap.size + 2 ≤ W.heap.size := by rw [HSZ.out]; omega
    clear hown hr
    by_cases hpos : 0 ≤ j
    · obtain ⟨q, rfl⟩ := Int.eq_ofNat_of_zero_le hpos
      have hq : q < l.length := by omega
      have HNQ : Hid (((q : Int) + 1).toNat = q + 1) := Lib.hid (by omega)
      have hlq : rl.length ≤ 100000 := by rw [HRL.out, HNQ.out, List.length_reverse, List.length_drop, HL.out]; omega
      obtain ⟨b, off, cap, kb, kd, he, hb, _, _, c0, c1, c2, c3, hnd⟩ := (HK.out.stays (Stays.of_below hbl)).at hq
      simp only [Value.slice.injEq] at he
      obtain ⟨rfl, -, rfl⟩ := he
      have HIH := Lib.hid (HI.out q hq _ _ wr hnd)
      have i0 : (0 : Int) ≤ (q : Int) := by omega
      have i1 : (q : Int) < (l.length : Int) := by omega
      clear hnd
      go_wp2_with fail
      refine HIH.out.mono ?_
      rintro e w1 ⟨xa, xc, rfl, hx1, hb1⟩
      have hBa : Below w1.heap.size w1 (w1.alloc (.cells #[.int .u8 (at' l' q).kind, .int .i64 (at' l' q).num, .string (at' l' q).name, .slice xa (at' l' q).kids.length xc] 35)) := (Below.refl _ _).alloc (Nat.le_refl _) _
      have hsz1 := hb1.size
      have HK1 := Lib.hid (kids_rows.1 (kids_1 (A := NewB (fun j => A j ∧ j < w.heap.size) wr) (heap_alloc_new w1 (.cells #[.int .u8 (at' l' q).kind, .int .i64 (at' l' q).num, .string (at' l' q).name, .slice xa (at' l' q).kids.length xc] 35)) (.inr hsz1) (hx1.stays (Stays.of_below hBa))))
      have HO1 := Lib.hid ((HOWN.out.below hb1).below hBa)
      have HD : Hid (∀ b, b < (w1.alloc (.cells #[.int .u8 (at' l' q).kind, .int .i64 (at' l' q).num, .string (at' l' q).name, .slice xa (at' l' q).kids.length xc] 35)).heap.size → NewB (fun j => A j ∧ j < w.heap.size) wr b → LD A w b ∧ (Value.slice va rl.length vc).ownBlock ≠ some b) := Lib.hid (fun b _ a => by
        rcases a with a | a
        · exact ⟨.inl a, fun e => by have := (HOWN.out.lt e).1; omega⟩
        · exact ⟨.inr (by omega), fun e => by have := (HOWN.out.lt e).2; omega⟩)
      have hbase : W.heap.size ≤ (w1.alloc (.cells #[.int .u8 (at' l' q).kind, .int .i64 (at' l' q).num, .string (at' l' q).name, .slice xa (at' l' q).kids.length xc] 35)).heap.size := Nat.le_trans hbl.size (Nat.le_trans hb1.size hBa.size)
      have HRD := Lib.hid (rev_drop l' q (by rw [HL.out]; exact hq))
      clear hx1 HIH
      go_wp2_with (at_builtin; refine wpl_rows TNd rfl (by decide) rfl (.tmp 19) (.tmp 26) rfl rfl rfl HO1.out HK1.out HD.out (by unfold maxLen; simp; omega) (by simp; omega) hbase ?_; intro a' c' w3 h3 hg3 hn3; have H3 := Lib.hid h3; have HG3 : Hid (World.grownBy _ w3 (Value.slice va rl.length vc).ownBlock) := Lib.hid hg3; clear h3 hg3 hn3)
      refine ⟨⟨(q : Int) - 1, rl ++ [at' l' q], rfl, by omega, by omega, by rw [show ((q : Int) - 1 + 1).toNat = q by omega, HRD.out, HRL.out, HNQ.out], ?_, H3.out⟩, by first | (simp [intOf]; done) | (simp [intOf]; omega)⟩
      exact (hbl.trans ((hb1.trans (hBa.mono hb1.size)).mono hbl.size)).grown HG3.out hbase (fun j e => (HOWN.out.lt e).1)
    · obtain rfl : j = -1 := by omega
      have hfull : rl = l'.reverse := by rw [HRL.out, show ((-1 : Int) + 1).toNat = 0 by omega, List.drop_zero]
      have HF := Lib.hid hfull
      have hz := blk_below hbl HZ.out
      have HZW := Lib.hid hz
      have HLL : Hid (rl.length = l.length) := Lib.hid (by rw [hfull, List.length_reverse, HL.out])
      clear hz hfull
      go_wp2_with (go_at_call 37; refine (block_C _ _ _ _).mono ?_; rintro e w2 ⟨rfl, hb2⟩; have hr := blk_below hb2 HZW.out; obtain ⟨z0, z1, z2, z3⟩ := cells4 hr; have f := unfrozen hr; have HR := Lib.hid hr; clear hr)
      (try simp only [Exit.inBlock, Exit.then])
      refine bodyPost_ret (results_cell_row (P := Tryz.prog) rfl _ _ (w.heap.size + 1) _ _ _ _ rfl (set4 HR.out _ _ _ _) Tryz.underlying35 rfl (by kernel_rfl)) rfl ?_
      have hB2 : Below w.heap.size w w2 := hA.trans ((hbl.trans (hb2.mono hbl.size)).mono hA.size)
      have hkk : KidsAt (LD A w) wr (.slice va rl.length vc) rl := kids_rows.2 (HOWN.out.shut (fun _ a => a) (fun j e => .inr (by have := (HOWN.out.lt e).1; omega)) (by rw [HLL.out]; unfold maxLen; omega))
      have hK4 := (((keeps_set w2 (w.heap.size + 1) 0 (.int .u8 57)).same (keeps_set _ (w.heap.size + 1) 1 (.int .i64 0))).same (keeps_set _ (w.heap.size + 1) 2 (.string ⟨#[]⟩))).same (keeps_set _ (w.heap.size + 1) 3 (.slice va rl.length vc))
      have hkd := (hkk.stays (Stays.of_below hb2)).stays (A' := NewB A w) ⟨hK4.size, fun b hb a => ⟨hK4.block b hb (fun e => by rcases a with ⟨_, a⟩ | a <;> omega), by rcases a with ⟨a, _⟩ | a; exact .inl a; exact .inr (by omega)⟩⟩
      have hF := HF.out
      subst hF
      exact ⟨va, vc, rfl, nd_node (k := 57) hkd (by omega) (Nat.zero_le _), bel_sets4 hB2 (by omega)⟩
end Go.Proofs.YtehmmokkjojggabGreatDoor
/- Numerals and the names of temporaries: no program in sight. -/
namespace Go.Proofs.YtehmmokkjojggabGreatDoor
set_option linter.unusedVariables false

theorem dig_range (u : Nat) : ∀ c ∈ Lib.decDigits u, 48 ≤ c.toNat ∧ c.toNat ≤ 57 := by
  induction u using Nat.strongRecOn with
  | ind u ih =>
    intro c hc
    have one : ∀ d : Nat, d < 10 → c = UInt8.ofNat (48 + d) → 48 ≤ c.toNat ∧ c.toNat ≤ 57 := by
      intro d hd e
      subst e
      have : (UInt8.ofNat (48 + d)).toNat = 48 + d := by simp; omega
      omega
    rw [Lib.decDigits] at hc
    by_cases h : u < 10
    · rw [dif_pos h] at hc
      exact one u h (by simpa using hc)
    · rw [dif_neg h] at hc
      rcases List.mem_append.1 hc with hc | hc
      · exact ih (u / 10) (by omega) c hc
      · exact one (u % 10) (by omega) (by simpa using hc)
theorem dig_ne (u : Nat) : Lib.decDigits u ≠ [] := by
  rw [Lib.decDigits]; split <;> simp
theorem dig_len : ∀ (k u : Nat), u < 10 ^ (k + 1) → (Lib.decDigits u).length ≤ k + 1
  | 0, u, h => by rw [Lib.decDigits, dif_pos (by omega)]; simp
  | k + 1, u, h => by
    rw [Lib.decDigits]
    split
    · simp
    · have := dig_len k (u / 10) (by rw [Nat.pow_succ] at h; omega)
      simp; omega
theorem dig_inj : ∀ (a b : Nat), Lib.decDigits a = Lib.decDigits b → a = b := by
  intro a
  induction a using Nat.strongRecOn with
  | ind a ih =>
    intro b h
    have ofn : ∀ c d : Nat, c < 10 → d < 10 → UInt8.ofNat (48 + c) = UInt8.ofNat (48 + d) → c = d := by
      intro c d hc hd e
      have e1 : (UInt8.ofNat (48 + c)).toNat = 48 + c := by simp; omega
      have e2 : (UInt8.ofNat (48 + d)).toNat = 48 + d := by simp; omega
      rw [e] at e1; omega
    have big : ∀ u, ¬ u < 10 → Lib.decDigits u = Lib.decDigits (u / 10) ++ [UInt8.ofNat (48 + u % 10)] := fun u hu => by
      rw [Lib.decDigits, dif_neg hu]
    have pos : ∀ u, 1 ≤ (Lib.decDigits u).length := fun u => by
      have := dig_ne u
      cases h : Lib.decDigits u with
      | nil => exact absurd h this
      | cons _ _ => simp
    by_cases ha : a < 10
    · rw [Lib.decDigits_one ha] at h
      by_cases hb : b < 10
      · rw [Lib.decDigits_one hb] at h; exact ofn a b ha hb (by simpa using h)
      · rw [big b hb] at h
        have h1 := congrArg List.length h
        have h2 := pos (b / 10)
        simp only [List.length_append, List.length_singleton] at h1; omega
    · rw [big a ha] at h
      by_cases hb : b < 10
      · rw [Lib.decDigits_one hb] at h
        have h1 := congrArg List.length h
        have h2 := pos (a / 10)
        simp only [List.length_append, List.length_singleton] at h1; omega
      · rw [big b hb] at h
        have h' := List.append_inj' h rfl
        have e1 := ih (a / 10) (by omega) (b / 10) h'.1
        have e2 := ofn (a % 10) (b % 10) (by omega) (by omega) (by simpa using h'.2)
        omega
theorem tname_inj {a b : Nat} (h : tname a = tname b) : a = b := by
  unfold tname at h
  injection h with h
  have := congrArg Array.toList h
  simp at this
  exact dig_inj a b this
end Go.Proofs.YtehmmokkjojggabGreatDoor
/- The statements of a bind have inverses: names, expressions. -/
namespace Go.Proofs.YtehmmokkjojggabGreatDoor
set_option linter.unusedVariables false
open Go.RowKit

theorem nm_name {s : ByteArray} (h : nameB s = true) : NmOk s := by
  unfold nameB at h
  simp only [Bool.and_eq_true, decide_eq_true_eq, Bool.not_eq_true'] at h
  obtain ⟨h1, h2, h3, h4, _⟩ := h
  have hl : ∀ j (h : j < s.size), 97 ≤ s[j].toNat ∧ s[j].toNat ≤ 122 := fun j hj => by
    unfold lowerB at h4
    have := List.all_eq_true.1 h4 s[j] (by
      have : s[j] = s.data.toList[j]'(by simpa using hj) := rfl
      rw [this]; exact List.getElem_mem _)
    simp only [Bool.and_eq_true, decide_eq_true_eq, UInt8.le_iff_toNat_le] at this
    exact ⟨by simpa using this.1, by simpa using this.2⟩
  exact ⟨by omega, by omega, fun h => hl 0 h, fun j hj => .inl (hl j hj), h3⟩
theorem nm_t {i : Nat} (h : i ≤ 10000) : NmOk (tname i) := by
  have hlen := dig_len 4 i (by omega)
  have hne := dig_ne i
  have hr := dig_range i
  generalize hd : Lib.decDigits i = d at *
  have hs : (tname i).size = d.length + 1 := by simp [tname, hd, ByteArray.size]
  have hat : ∀ j (h : j < (tname i).size), (tname i)[j] = (116 :: d)[j]'(by rw [hs] at h; simpa using h) := fun j h => by
    simp [tname, hd, ByteArray.getElem_eq_getElem_data]
  refine ⟨by omega, by omega, fun h0 => ?_, fun j hj => ?_, ?_⟩
  · rw [hat 0 h0]; simp
  · rw [hat j hj]
    match j, hj with
    | 0, _ => simp
    | j + 1, hj =>
      right
      simp only [List.getElem_cons_succ]
      exact hr _ (List.getElem_mem _)
  · have key : ∀ x ∈ keywords, ∀ c, x.data.toList[1]? = some c → 97 ≤ c.toNat := by decide
    unfold keyB inB
    rw [List.any_eq_false]
    intro x hx he
    simp only [decide_eq_true_eq] at he
    subst he
    obtain ⟨c, d', rfl⟩ : ∃ c d', d = c :: d' := by
      cases d with
      | nil => exact absurd rfl hne
      | cons c d' => exact ⟨c, d', rfl⟩
    have h1 := key _ hx c (by simp [tname, hd])
    have h2 := hr c (List.mem_cons_self ..)
    omega
theorem nm_good {s : ByteArray} (h : GName s) : NmOk s := by
  rcases h with h | ⟨i, hi, rfl⟩
  · exact nm_name h
  · exact nm_t hi
theorem nm_head : NmOk headS := by
  refine ⟨by decide, by decide, fun h => ?_, fun j hj => ?_, by decide⟩
  · show 97 ≤ (104 : UInt8).toNat ∧ (104 : UInt8).toNat ≤ 122
    decide
  · have hj2 : j < 2 := hj
    match j, hj2 with
    | 0, _ =>
      show 97 ≤ (104 : UInt8).toNat ∧ (104 : UInt8).toNat ≤ 122 ∨ 48 ≤ (104 : UInt8).toNat ∧ (104 : UInt8).toNat ≤ 57
      decide
    | 1, _ =>
      show 97 ≤ (48 : UInt8).toNat ∧ (48 : UInt8).toNat ≤ 122 ∨ 48 ≤ (48 : UInt8).toNat ∧ (48 : UInt8).toNat ≤ 57
      decide

/-- a statement that a bind may become -/
inductive CS : Nd → Prop
  | plus (s : ByteArray) (e : Nd) (hs : NmOk s) (he : Passes 102 e) (h57 : e.kind ≠ 57) (hz : sizeN e ≤ 100) : CS (plusN s e)
  | call (p : ByteArray) (args : List ByteArray) (hl : args.length ≤ 2000) : CS (callN p args)
  | cond (a d : Nd) (l1 l2 : List Nd) (h1 : ∀ s ∈ l1, CS s) (h2 : ∀ s ∈ l2, CS s) (n1 : l1.length ≤ 100000) (n2 : l2.length ≤ 100000) : CS (nodeN 52 ByteArray.empty [a, blockN l1, blockN l2, d])
  | loc (a c : Nd) (k k' : Int) (s : ByteArray) (hk : k = 44 ∧ k' = 45 ∨ k = 45 ∧ k' = 44) (hs : NmOk s) (ha : Passes 102 a) (hc : Passes 102 c) (ka : a.kind ≠ 57) (kc : c.kind ≠ 57) (za : sizeN a ≤ 100) (zc : sizeN c ≤ 100) : CS (nodeN 54 headS [a, blockN [nodeN k s [vN headS]], c])

theorem inverts_plus (s : ByteArray) (e : Nd) (h57 : e.kind ≠ 57) (hz : sizeN e ≤ 100) : Inverts (plusN s e) (invN (plusN s e)) := by
  have : invN (plusN s e) = .mk 41 0 ByteArray.empty [vN s, e] := by rw [plusN, nodeN, invN, invK]; rfl
  rw [this]
  refine inverts_flat 40 41 0 ByteArray.empty [vN s, e] (by simp) (.inl ⟨rfl, rfl⟩) (fun j hj => ?_)
  match j, hj with
  | 0, _ => exact ⟨by show (2 : Int) ≠ 57; omega, by show sizeN (vN s) ≤ 100000; rw [size_v]; omega⟩
  | 1, _ => exact ⟨h57, by show sizeN e ≤ 100000; omega⟩
theorem inv_plus (s : ByteArray) (e : Nd) (hs : NmOk s) (he : Passes 102 e) (h57 : e.kind ≠ 57) (hz : sizeN e ≤ 100) : InvOk (plusN s e) (invN (plusN s e)) :=
  inverse_stmt _ _ (by show (40 : Int) ≠ 57; omega) (by show (40 : Int) ≠ 52; omega) (by show (40 : Int) ≠ 50; omega) (isStmt_plus 40 _ _ (.inl rfl) (isPlace_v s hs) he) (inverts_plus s e h57 hz)
theorem inv_loc (a c : Nd) (k k' : Int) (s : ByteArray) (hk : k = 44 ∧ k' = 45 ∨ k = 45 ∧ k' = 44) (hs : NmOk s) (ha : Passes 102 a) (hc : Passes 102 c) (ka : a.kind ≠ 57) (kc : c.kind ≠ 57) (za : sizeN a ≤ 100) (zc : sizeN c ≤ 100) :
    InvOk (nodeN 54 headS [a, blockN [nodeN k s [vN headS]], c]) (invN (nodeN 54 headS [a, blockN [nodeN k s [vN headS]], c])) := by
  have e0 : invN (nodeN k s [vN headS]) = nodeN k' s [vN headS] := by
    rcases hk with ⟨rfl, rfl⟩ | ⟨rfl, rfl⟩ <;> (rw [nodeN, invN, invK]; rfl)
  have e1 : invN (blockN [nodeN k s [vN headS]]) = blockN [nodeN k' s [vN headS]] := by
    rw [blockN, nodeN, invN, invK, if_pos rfl, invL, invL, e0]; rfl
  have e2 : invN (nodeN 54 headS [a, blockN [nodeN k s [vN headS]], c]) = .mk 54 0 headS [c, blockN [nodeN k' s [vN headS]], a] := by
    have : ∀ x y z : Nd, invN (nodeN 54 headS [x, y, z]) = .mk 54 0 headS [z, invN y, x] := fun x y z => by
      rw [nodeN, invN, invK]; simp [invL, at']
    rw [this, e1]
  rw [e2]
  refine inverse_stmt _ _ (by show (54 : Int) ≠ 57; omega) (by show (54 : Int) ≠ 52; omega) (by show (54 : Int) ≠ 50; omega) (isStmt_local headS a _ c nm_head ha (isBlock_true _ (fun j hj => ?_)) hc) (inverts_local 0 headS a _ _ c ka rfl kc (by omega) (by omega) (inverts_block 0 ByteArray.empty _ _ ?_))
  · match j, hj with
    | 0, _ => exact isStmt_push k s _ (by omega) hs (isPlace_v headS nm_head)
  · refine inverts_flat k k' 0 s [vN headS] (by simp) (.inr (by omega)) (fun j hj => ?_)
    match j, hj with
    | 0, _ => exact ⟨by show (2 : Int) ≠ 57; omega, by show sizeN (vN headS) ≤ 100000; rw [size_v]; omega⟩

theorem pass_v {s : ByteArray} (h : GName s) : Passes 102 (vN s) := isExpr_leaf 2 s (.inl rfl) (nm_good h)
theorem argN_good {args : List ByteArray} (h : ∀ a ∈ args, GName a) {i : Nat} (hi : i < args.length) : GName (argN args i) := by
  rw [argN, List.getD_eq_getElem?_getD, List.getElem?_eq_getElem hi]; exact h _ (List.getElem_mem _)

mutual
theorem cs_bind (lib : List Fn) (cf : CallF) (hcf : ∀ nm, (cf nm).2.length ≤ 1000) : ∀ b : Bd, GoodB lib b → sizeB b ≤ 10000 → ∀ s ∈ bindN cf b, CS s
  | .mk tn list op num name args thn els, hg, hz => by
    rw [GoodB] at hg
    obtain ⟨htn, hargs, hop, hthn, hels⟩ := hg
    rw [sizeB] at hz
    have hcopy : ∀ x y : ByteArray, CS (callN lcopyS [x, y]) := fun x y => .call _ _ (by simp)
    have z0 : sizeN (numN 0) ≤ 100 := by rw [size_num]; omega
    have p0 : Passes 102 (numN 0) := isExpr_num 0 (by omega)
    rw [bindN]
    rcases hop with ⟨rfl, h⟩ | ⟨rfl, h⟩ | ⟨rfl, h, h2⟩ | ⟨rfl, h⟩ | ⟨rfl, h, h2⟩ | rfl | ⟨rfl, h⟩ | ⟨h, h2⟩
    · intro s hs
      simp at hs; subst hs
      exact .plus _ _ (nm_good htn) (isExpr_num _ h) (by show (1 : Int) ≠ 57; omega) (by rw [size_num]; omega)
    · rw [if_neg (by omega), if_pos rfl]
      intro s hs
      cases list with
      | true => simp at hs; subst hs; exact hcopy _ _
      | false => simp at hs; subst hs; exact .plus _ _ (nm_good htn) (pass_v (argN_good hargs (by omega))) (by show (2 : Int) ≠ 57; omega) (by rw [size_v]; omega)
    · rw [if_neg (by omega), if_neg (by omega), if_pos rfl]
      intro s hs
      simp only [List.mem_singleton] at hs; subst hs
      have e : num % 256 = num := by omega
      rw [e]
      exact .plus _ _ (nm_good htn) (isExpr_op num _ _ h.1 h.2 (pass_v (argN_good hargs (by omega))) (pass_v (argN_good hargs (by omega)))) (by show num ≠ 57; omega) (by simp only [size_node, sizeL, size_v]; omega)
    · rw [if_neg (by omega), if_neg (by omega), if_neg (by omega), if_pos rfl]
      intro s hs
      simp only [List.mem_singleton] at hs; subst hs
      have l1 := bindsN_len cf thn
      have l2 := bindsN_len cf els
      have l3 := len_sizeBs thn
      have l4 := len_sizeBs els
      exact .cond _ _ _ _ (cs_binds lib cf hcf thn hthn (by omega)) (cs_binds lib cf hcf els hels (by omega)) (by omega) (by omega)
    · rw [if_neg (by omega), if_neg (by omega), if_neg (by omega), if_neg (by omega), if_pos rfl]
      intro s hs
      simp only [List.mem_singleton] at hs; subst hs
      have := hcf name
      exact .call _ _ (by simp; omega)
    · rw [if_neg (by omega), if_neg (by omega), if_neg (by omega), if_neg (by omega), if_neg (by omega), if_neg (by omega), if_neg (by omega), if_neg (by omega), if_neg (by omega)]
      intro s hs; simp at hs
    · rw [if_neg (by omega), if_neg (by omega), if_neg (by omega), if_neg (by omega), if_neg (by omega), if_pos rfl]
      intro s hs
      simp only [List.mem_cons, List.not_mem_nil, or_false] at hs
      rcases hs with rfl | rfl
      · exact hcopy _ _
      · exact .loc _ _ 44 45 _ (.inl ⟨rfl, rfl⟩) (nm_good htn) (pass_v (argN_good hargs (by omega))) p0 (by show (2 : Int) ≠ 57; omega) (by show (1 : Int) ≠ 57; omega) (by rw [size_v]; omega) z0
    · have g0 := argN_good hargs (i := 0) (by omega)
      have leaf : ∀ k : Int, k = 2 ∨ k = 4 ∨ k = 5 → Passes 102 (nodeN k (argN args 0) []) := fun k hk => isExpr_leaf k _ hk (nm_good g0)
      have zl : ∀ k : Int, sizeN (nodeN k (argN args 0) []) ≤ 100 := fun k => by rw [size_node, sizeL]; omega
      rcases h with rfl | rfl | rfl
      · rw [if_neg (by omega), if_neg (by omega), if_neg (by omega), if_neg (by omega), if_neg (by omega), if_neg (by omega), if_pos rfl]
        intro s hs
        simp only [List.mem_singleton] at hs; subst hs
        exact .plus _ _ (nm_good htn) (leaf 4 (by omega)) (by show (4 : Int) ≠ 57; omega) (zl 4)
      · rw [if_neg (by omega), if_neg (by omega), if_neg (by omega), if_neg (by omega), if_neg (by omega), if_neg (by omega), if_neg (by omega), if_pos rfl]
        intro s hs
        simp only [List.mem_cons, List.not_mem_nil, or_false] at hs
        rcases hs with rfl | rfl
        · exact hcopy _ _
        · exact .loc _ _ 45 44 _ (.inr ⟨rfl, rfl⟩) (nm_good htn) p0 (leaf 4 (by omega)) (by show (1 : Int) ≠ 57; omega) (by show (4 : Int) ≠ 57; omega) z0 (zl 4)
      · rw [if_neg (by omega), if_neg (by omega), if_neg (by omega), if_neg (by omega), if_neg (by omega), if_neg (by omega), if_neg (by omega), if_neg (by omega), if_pos rfl]
        intro s hs
        simp only [List.mem_singleton] at hs; subst hs
        exact .plus _ _ (nm_good htn) (isExpr_op 16 _ _ (by omega) (by omega) (leaf 5 (by omega)) p0) (by show (16 : Int) ≠ 57; omega) (by simp only [size_node, sizeL, size_num]; omega)
theorem cs_binds (lib : List Fn) (cf : CallF) (hcf : ∀ nm, (cf nm).2.length ≤ 1000) : ∀ l : List Bd, GoodBs lib l → sizeBs l ≤ 10000 → ∀ s ∈ bindsN cf l, CS s
  | [], _, _ => by rw [bindsN]; intro s hs; simp at hs
  | b :: r, hg, hz => by
    rw [GoodBs] at hg
    rw [sizeBs] at hz
    rw [bindsN]
    intro s hs
    rcases List.mem_append.1 hs with hs | hs
    · exact cs_bind lib cf hcf b hg.1 (by omega) s hs
    · exact cs_binds lib cf hcf r hg.2 (by omega) s hs
end
end Go.Proofs.YtehmmokkjojggabGreatDoor
/- backstepref40.one and Block as a whole. -/
namespace Go.Proofs.YtehmmokkjojggabGreatDoor
set_option linter.unusedVariables false
open Go.RowKit

/-- what is asked of targets -/
def TgOk (ts : List Tg) : Prop := ∀ nm, nm.size ≤ maxLen → (tgF ts nm).extra.length ≤ 1000 ∧ (tgF ts nm).proc.size ≤ maxLen
/-- Block, up to a size -/
def RBlockOk (lib : List Fn) (ts : List Tg) (m : Nat) : Prop := ∀ (l : List Bd) (bv : Value) (tv : Option Addr) (tc : Nat) (w : World), sizeBs l ≤ m → GoodBs lib l → BdsAt Any w bv l → RowsAt TgE Any w (.slice tv ts.length tc) ts → Calls Tryz.prog 14 #[bv, .slice tv ts.length tc] w (BlockPost (bindsN (refF ts) l) w)

theorem one_any (lib : List Fn) (ts : List Tg) (htg : TgOk ts) (m : Nat) (hm : m ≤ 90000) (ih : RBlockOk lib ts m) (b : Bd) (av ha ea tv : Option Addr) (ac hc ec tc : Nat) (w : World) (hsz : sizeB b ≤ m + 1) (hg : GoodB lib b) (hok : b.Ok1) (hs : StrsAt Any w (.slice av b.args.length ac) b.args) (ht : BdsAt Any w (.slice ha b.thn.length hc) b.thn) (he : BdsAt Any w (.slice ea b.els.length ec) b.els) (hts : RowsAt TgE Any w (.slice tv ts.length tc) ts) :
    Calls Tryz.prog 39 #[.agg #[.string b.to, .bool b.list, .int .u8 b.op, .int .i64 b.num, .string b.name, .slice av b.args.length ac, .slice ha b.thn.length hc, .slice ea b.els.length ec], .slice tv ts.length tc] w (StmtsPost (bindN (refF ts) b) w) := by
  obtain ⟨tn, l, op, num, nm, args, thn, els⟩ := b
  obtain ⟨o1, o2, o3, o4⟩ := hok
  simp only [Bd.to, Bd.list, Bd.op, Bd.num, Bd.name, Bd.args, Bd.thn, Bd.els] at *
  rw [sizeB] at hsz
  rw [GoodB] at hg
  obtain ⟨_, _, hop, hthn, hels⟩ := hg
  rcases hop with ⟨rfl, h⟩ | ⟨rfl, h⟩ | ⟨rfl, h, h2⟩ | ⟨rfl, h⟩ | ⟨rfl, h, h2⟩ | rfl | ⟨rfl, h⟩ | ⟨h, h2⟩
  · exact one_num tn nm l num av ha ea tv ac _ hc _ ec _ tc args (refF ts) thn els w hs o1 o3 (Nat.zero_le _)
  · cases l
    · exact one_var tn nm num av ha ea tv ac _ hc _ ec _ tc args (refF ts) thn els w hs o1 o3 (by omega)
    · exact one_varl tn nm num av ha ea tv ac _ hc _ ec _ tc args (refF ts) thn els w hs o1 o3 (by omega)
  · exact one_op tn nm l num av ha ea tv ac _ hc _ ec _ tc args (refF ts) thn els w hs o1 o3 (by omega)
  · refine one_if tn nm l num av ha ea tv ac _ hc _ ec _ tc args (refF ts) thn els w hs o1 o3 (by omega) (Lib.hid fun w1 hb => ?_) (Lib.hid fun w1 hb => ?_)
    · exact ih thn _ tv tc w1 (by omega) hthn (ht.stays (Stays.of_below hb)) (hts.stays (Stays.of_below hb))
    · exact ih els _ tv tc w1 (by omega) hels (he.stays (Stays.of_below hb)) (hts.stays (Stays.of_below hb))
  · exact one_call tn nm l num av ha ea tv ac _ hc _ ec tc args ts thn els w hs hts o1 o4 o3 (by omega) (htg nm o4).1 (htg nm o4).2
  · exact one_nil tn nm l num av ha ea tv ac _ hc _ ec _ tc args (refF ts) thn els w hs o1 o3 (Nat.zero_le _)
  · exact one_cons tn nm l num av ha ea tv ac _ hc _ ec _ tc args (refF ts) thn els w hs o1 o3 (by omega)
  · rcases h with rfl | rfl | rfl
    · exact one_head tn nm l num av ha ea tv ac _ hc _ ec _ tc args (refF ts) thn els w hs o1 o3 (by omega)
    · exact one_tail tn nm l num av ha ea tv ac _ hc _ ec _ tc args (refF ts) thn els w hs o1 o3 (by omega)
    · exact one_null tn nm l num av ha ea tv ac _ hc _ ec _ tc args (refF ts) thn els w hs o1 o3 (by omega)

theorem rblock_ok (lib : List Fn) (ts : List Tg) (htg : TgOk ts) : ∀ m, m ≤ 90000 → RBlockOk lib ts m
  | 0, _ => fun l bv tv tc w hsz hg hv hts => by
    have := len_sizeBs l
    exact block_walk (refF ts) l bv tv _ tc w (by omega) hv (Lib.hid fun k hk => by omega)
  | m + 1, hm => fun l bv tv tc w hsz hg hv hts => by
    have := len_sizeBs l
    refine block_walk (refF ts) l bv tv _ tc w (by omega) hv (Lib.hid fun k hk av ha ea ac hc ec w1 hb hs ht he hok => ?_)
    exact one_any lib ts htg m (by omega) (rblock_ok lib ts htg m (by omega)) (at' l k) av ha ea tv ac hc ec tc w1 (by have := sizeB_at l k hk; omega) (hg.mem _ (at_mem hk)) hok hs ht he (hts.stays (Stays.of_below hb))
end Go.Proofs.YtehmmokkjojggabGreatDoor
/- Walks of package backsteplaw40: binds. -/
namespace Go.Proofs.YtehmmokkjojggabGreatDoor
set_option linter.unusedVariables false
open Go.RowKit

theorem BdCells.congr {A : Nat → Prop} {w : World} {c d : Nat → Value} {x : Bd} (h : BdCells A w c x) (e : ∀ i, i < 8 → d i = c i) : BdCells A w d x :=
  ⟨(e 0 (by omega)).trans h.c0, (e 1 (by omega)).trans h.c1, (e 2 (by omega)).trans h.c2, (e 3 (by omega)).trans h.c3, (e 4 (by omega)).trans h.c4, by rw [e 5 (by omega)]; exact h.c5, by rw [e 6 (by omega)]; exact h.c6, by rw [e 7 (by omega)]; exact h.c7, h.ok⟩
/-- binds as elements -/
def BdE : Elem Bd where
  size := 8
  C := BdCells
  stays := fun hs _ _ h => h.stays hs
  congr := fun h e => h.congr e
  one := fun h i hi => by
    obtain ⟨_, a5, c5, e5⟩ := h.c5.form
    obtain ⟨_, a6, c6, e6⟩ := h.c6.form
    obtain ⟨_, a7, c7, e7⟩ := h.c7.form
    match i, hi with
    | 0, _ => rw [h.c0]; rfl
    | 1, _ => rw [h.c1]; rfl
    | 2, _ => rw [h.c2]; rfl
    | 3, _ => rw [h.c3]; rfl
    | 4, _ => rw [h.c4]; rfl
    | 5, _ => rw [e5]; rfl
    | 6, _ => rw [e6]; rfl
    | 7, _ => rw [e7]; rfl
theorem bds_rows {A : Nat → Prop} {w : World} {v : Value} {l : List Bd} : BdsAt A w v l ↔ RowsAt BdE A w v l := by
  constructor
  · intro h
    cases h with
    | mk _ _ cs h hf ht he => exact ⟨cs, h, fun j hj => by obtain ⟨e0, e1, e2, e3, e4, e5, e6⟩ := hf j hj; exact ⟨e0, e1, e2, e3, e4, e5, ht j hj, he j hj, e6⟩⟩
  · rintro ⟨cs, h, hf⟩
    exact .mk v l cs h (fun j hj => ⟨(hf j hj).c0, (hf j hj).c1, (hf j hj).c2, (hf j hj).c3, (hf j hj).c4, (hf j hj).c5, (hf j hj).ok⟩) (fun j hj => (hf j hj).c6) (fun j hj => (hf j hj).c7)
theorem TRBd : RowT Tryz.prog 46 86 (.agg #[.string ByteArray.empty, .bool false, .int .u8 0, .int .i64 0, .string ByteArray.empty, .slice none 0 0, .slice none 0 0, .slice none 0 0]) 8 120 := ⟨Tryz.underlying46, by kernel_rfl⟩

/-- what binds leaves -/
def BdsPost (A : Nat → Prop) (l : List Bd) (w : World) (e : Ending) (w' : World) : Prop := ∃ a c, e = .returned (.slice a l.length c) ∧ BdsAt (NewB A w) w' (.slice a l.length c) l ∧ Below w.heap.size w w'
def LBindsOk (m : Nat) : Prop := ∀ (l : List Bd) (bv : Value) (A : Nat → Prop) (w : World), sizeBs l ≤ m → BdsAt A w bv l → Calls Tryz.prog 15 #[bv] w (BdsPost A l w)

theorem lbT_rows {A : Nat → Prop} {w wr w4 : World} {l : List Bd} {k : Nat} {b : Bd} {va aa a3 a4 : Option Addr} {vc ac c3 c4 : Nat} (h : RowsOwn BdE 86 (NewB A w) w.heap.size wr (.slice va k vc) l) (hw : w.heap.size ≤ wr.heap.size) (hb : Below wr.heap.size wr w4) (hs : StrsAt (fun b => A b ∧ b < w.heap.size) w4 (.slice aa b.args.length ac) b.args)
    (ht : BdsAt (fun x => (A x ∧ x < w.heap.size) ∨ wr.heap.size ≤ x) w4 (.slice a3 b.thn.length c3) b.thn) (he : BdsAt (fun x => (A x ∧ x < w.heap.size) ∨ wr.heap.size ≤ x) w4 (.slice a4 b.els.length c4) b.els) (hok : b.Ok1) :
    RowsOwn BdE 86 (NewB A w) w.heap.size (w4.alloc (.cells #[.string b.to, .bool b.list, .int .u8 b.op, .int .i64 b.num, .string b.name, .slice aa b.args.length ac, .slice a3 b.thn.length c3, .slice a4 b.els.length c4] 86)) (.slice va k vc) l ∧ RowsAt BdE (fun x => (A x ∧ x < w.heap.size) ∨ wr.heap.size ≤ x) (w4.alloc (.cells #[.string b.to, .bool b.list, .int .u8 b.op, .int .i64 b.num, .string b.name, .slice aa b.args.length ac, .slice a3 b.thn.length c3, .slice a4 b.els.length c4] 86)) (.slice (some ⟨w4.heap.size, 0, none⟩) 1 1) [b] ∧
    ∀ x, x < (w4.alloc (.cells #[.string b.to, .bool b.list, .int .u8 b.op, .int .i64 b.num, .string b.name, .slice aa b.args.length ac, .slice a3 b.thn.length c3, .slice a4 b.els.length c4] 86)).heap.size → ((A x ∧ x < w.heap.size) ∨ wr.heap.size ≤ x) → NewB A w x ∧ (Value.slice va k vc).ownBlock ≠ some x := by
  have hBa : Below w4.heap.size w4 (w4.alloc (.cells #[.string b.to, .bool b.list, .int .u8 b.op, .int .i64 b.num, .string b.name, .slice aa b.args.length ac, .slice a3 b.thn.length c3, .slice a4 b.els.length c4] 86)) := (Below.refl _ _).alloc (Nat.le_refl _) _
  refine ⟨(h.below hb).below hBa, rows_1 (heap_alloc_new w4 _) (.inr hb.size) rfl ⟨rfl, rfl, rfl, rfl, rfl, (hs.stays (Stays.of_below hBa)).stays ⟨Nat.le_refl _, fun x _ a => ⟨rfl, .inl a⟩⟩, ht.stays (Stays.of_below hBa), he.stays (Stays.of_below hBa), hok⟩, fun x _ hx => ⟨?_, fun e => ?_⟩⟩
  · rcases hx with hx | hx
    · exact .inl hx.1
    · exact .inr (by omega)
  · have := h.lt e
    rcases hx with hx | hx <;> omega

set_option maxRecDepth 100000 in
set_option maxHeartbeats 3200000 in
theorem lbinds_walk (l : List Bd) (bv : Value) (A : Nat → Prop) (w : World) (hsz : l.length ≤ 100000) (hv : BdsAt A w bv l)
    (HB : Hid (∀ k, k < l.length → ∀ (v : Value) (A : Nat → Prop) (w : World), BdsAt A w v (at' l k).thn → Calls Tryz.prog 15 #[v] w (BdsPost A (at' l k).thn w)))
    (HE : Hid (∀ k, k < l.length → ∀ (v : Value) (A : Nat → Prop) (w : World), BdsAt A w v (at' l k).els → Calls Tryz.prog 15 #[v] w (BdsPost A (at' l k).els w))) :
    Calls Tryz.prog 15 #[bv] w (BdsPost A l w) := by
  obtain ⟨hll, la, lc, rfl⟩ := hv.form
  have HV := Lib.hid (hv.stays (A' := fun b => A b ∧ b < w.heap.size) (w' := w) ⟨Nat.le_refl _, fun b hb a => ⟨rfl, a, hb⟩⟩)
  clear hv
  go_enter Tryz.func15, Tryz.ntmps15
  go_wp2
  go_loopw [8, 3] (fun i v wr => ∃ k : Nat, i = .int .i64 k ∧ k ≤ l.length ∧ Below w.heap.size w wr ∧ RowsOwn BdE 86 (NewB A w) w.heap.size wr v (l.take k)) (fun i _ _ => l.length - (intOf i).toNat)
  case atStart => exact ⟨0, rfl, Nat.zero_le _, Below.refl _ _, by rw [List.take_zero]; exact RowsOwn.nil _ _ _ _ _⟩
  case round =>
    obtain ⟨k, rfl, hk, hbl, hown⟩ := hrel
    have hlk : (l.take k).length = k := by simp; omega
    obtain ⟨va, vc, hvv⟩ := hown.form
    rw [hlk] at hvv
    subst hvv
    have HOWN := Lib.hid hown
    have HLK := Lib.hid hlk
    clear hown hlk
    by_cases hlt : k < l.length
    · obtain ⟨b, off, cap, aa, ac, ta, tc, ea, ec, he, hb, c0, c1, c2, c3, c4, c5, c6, c7, hs, ht, hel, hok⟩ := (HV.out.stays (Stays.of_below hbl)).at hlt
      simp only [Value.slice.injEq] at he
      obtain ⟨rfl, -, rfl⟩ := he
      have HTK : Hid (l.take (k + 1) = l.take k ++ [at' l k]) := Lib.hid (by rw [List.take_add_one, List.getElem?_eq_getElem hlt, at_eq hlt]; rfl)
      have HX := Lib.hid (heap_alloc_new wr (.cells #[.string (at' l k).to, .bool (at' l k).list, .int .u8 (at' l k).op, .int .i64 (at' l k).num, .string (at' l k).name, .slice aa (at' l k).args.length ac, .slice ta (at' l k).thn.length tc, .slice ea (at' l k).els.length ec] 88))
      have hst : ∀ w1, Below wr.heap.size wr w1 → Stays (fun b => A b ∧ b < w.heap.size) (fun b => A b ∧ b < w.heap.size) wr w1 := fun w1 hw => Stays.of_below hw
      have HS1 : Hid (∀ w1, Below wr.heap.size wr w1 → StrsAt (fun b => A b ∧ b < w.heap.size) w1 (.slice aa (at' l k).args.length ac) (at' l k).args) := Lib.hid (fun w1 hw => hs.stays (hst w1 hw))
      have HT1 : Hid (∀ w1, Below wr.heap.size wr w1 → Calls Tryz.prog 15 #[.slice ta (at' l k).thn.length tc] w1 (BdsPost (fun b => A b ∧ b < w.heap.size) (at' l k).thn w1)) := Lib.hid (fun w1 hw => HB.out k hlt _ _ w1 (ht.stays (hst w1 hw)))
      have HE1 : Hid (∀ w1, Below wr.heap.size wr w1 → Calls Tryz.prog 15 #[.slice ea (at' l k).els.length ec] w1 (BdsPost (fun b => A b ∧ b < w.heap.size) (at' l k).els w1)) := Lib.hid (fun w1 hw => HE.out k hlt _ _ w1 (hel.stays (hst w1 hw)))
      have hba : Below wr.heap.size wr (wr.alloc (.cells #[.string (at' l k).to, .bool (at' l k).list, .int .u8 (at' l k).op, .int .i64 (at' l k).num, .string (at' l k).name, .slice aa (at' l k).args.length ac, .slice ta (at' l k).thn.length tc, .slice ea (at' l k).els.length ec] 88)) := (Below.refl _ _).alloc (Nat.le_refl _) _
      have hsl := hbl.size
      have HOK := Lib.hid hok
      clear hs ht hel hst hok
      go_wp2
      generalize hW : (wr.alloc (.cells #[.string (at' l k).to, .bool (at' l k).list, .int .u8 (at' l k).op, .int .i64 (at' l k).num, .string (at' l k).name, .slice aa (at' l k).args.length ac, .slice ta (at' l k).thn.length tc, .slice ea (at' l k).els.length ec] 88)) = W at *
      have hWs : wr.heap.size < W.heap.size := by rw [← hW]; simp
      clear hW
      have HC : Hid (∀ w1, Below W.heap.size W w1 → (fun w1 => w1.cell? ⟨wr.heap.size, 0, none⟩ = some (.string (at' l k).to) ∧ w1.cell? ⟨wr.heap.size, 1, none⟩ = some (.bool (at' l k).list) ∧ w1.cell? ⟨wr.heap.size, 2, none⟩ = some (.int .u8 (at' l k).op) ∧ w1.cell? ⟨wr.heap.size, 3, none⟩ = some (.int .i64 (at' l k).num) ∧ w1.cell? ⟨wr.heap.size, 4, none⟩ = some (.string (at' l k).name) ∧ w1.cell? ⟨wr.heap.size, 5, none⟩ = some (.slice aa (at' l k).args.length ac) ∧ w1.cell? ⟨wr.heap.size, 6, none⟩ = some (.slice ta (at' l k).thn.length tc) ∧ w1.cell? ⟨wr.heap.size, 7, none⟩ = some (.slice ea (at' l k).els.length ec)) w1) := Lib.hid (fun w1 hw => cellsB (blk_below hw HX.out))
      go_region_held3 (fun w1 => w1.cell? ⟨wr.heap.size, 0, none⟩ = some (.string (at' l k).to) ∧ w1.cell? ⟨wr.heap.size, 1, none⟩ = some (.bool (at' l k).list) ∧ w1.cell? ⟨wr.heap.size, 2, none⟩ = some (.int .u8 (at' l k).op) ∧ w1.cell? ⟨wr.heap.size, 3, none⟩ = some (.int .i64 (at' l k).num) ∧ w1.cell? ⟨wr.heap.size, 4, none⟩ = some (.string (at' l k).name) ∧ w1.cell? ⟨wr.heap.size, 5, none⟩ = some (.slice aa (at' l k).args.length ac) ∧ w1.cell? ⟨wr.heap.size, 6, none⟩ = some (.slice ta (at' l k).thn.length tc) ∧ w1.cell? ⟨wr.heap.size, 7, none⟩ = some (.slice ea (at' l k).els.length ec))
        (first | with_reducible exact ⟨p0, p1, p2, p3, p4, p5, p6, p7⟩ | with_reducible exact HC.out _ (by (repeat (with_reducible first | exact Below.refl _ _ | refine bel_drew ?_ | refine bel_alloc ?_ | (apply bel_step; focus assumption)))))
        (first
        | (go_at_call 15; (with_reducible refine (HT1.out _ (hba.trans (Below.mono (by (repeat (with_reducible first | exact Below.refl _ _ | refine bel_drew ?_ | refine bel_alloc ?_ | (apply bel_step; focus assumption)))) hba.size))).mono ?_); rintro e w3 ⟨a3, c3, rfl, hk3, hb3⟩)
        | (go_at_call 15; (with_reducible refine (HE1.out _ (hba.trans (Below.mono (by (repeat (with_reducible first | exact Below.refl _ _ | refine bel_drew ?_ | refine bel_alloc ?_ | (apply bel_step; focus assumption)))) hba.size))).mono ?_); rintro e w4 ⟨a4, c4, rfl, hk4, hb4⟩; have hw34 : Below w3.heap.size w3 w4 := (by (repeat (with_reducible first | exact Below.refl _ _ | refine bel_drew ?_ | refine bel_alloc ?_ | (apply bel_step; focus assumption)))); have hw3 : Below W.heap.size W w3 := (by (repeat (with_reducible first | exact Below.refl _ _ | refine bel_drew ?_ | refine bel_alloc ?_ | (apply bel_step; focus assumption)))); have hs3 := hw3.size; have hw4 := (hba.trans ((hw3.trans (hw34.mono hw3.size)).mono hba.size)); have HW4 := Lib.hid hw4; have HR := Lib.hid (lbT_rows (b := at' l k) (aa := aa) (ac := ac) HOWN.out hsl hw4 (HS1.out w4 hw4) (hk3.stays ⟨hw34.size, fun x hx a => ⟨hw34.block x hx, by rcases a with a | a; exact .inl a; exact .inr (by simp at a; omega)⟩⟩) (hk4.stays ⟨Nat.le_refl _, fun x _ a => ⟨rfl, by rcases a with a | a; exact .inl a; exact .inr (by (try simp at a); omega)⟩⟩) HOK.out); clear hk3 hk4 hw4 hw34)
        | (refine step_rows TRBd rfl (by decide) (by rfl) (.tmp 12) (.tmp 32) (by rfl) (by rfl) (by rfl) HR.out.1 HR.out.2.1 HR.out.2.2 (by rw [HLK.out]; unfold maxLen; simp; omega) (by rw [HLK.out]; simp; omega) (by have := HW4.out.size; simp; omega) ?_; intro a' c' w6 h6 hg6 hn6; have hx6 : w6.heap[wr.heap.size]? = some (.cells #[.string (at' l k).to, .bool (at' l k).list, .int .u8 (at' l k).op, .int .i64 (at' l k).num, .string (at' l k).name, .slice aa (at' l k).args.length ac, .slice ta (at' l k).thn.length tc, .slice ea (at' l k).els.length ec] 88) := (hg6.block wr.heap.size (by have := HW4.out.size; have := hw3.size; simp; omega) (fun e => by have := (HOWN.out.lt e.symm).2; omega)).trans (by (repeat (with_reducible first | exact HX.out | refine blk_drew ?_ | refine blk_alloc ?_ | (apply blk_below; focus assumption)))); obtain ⟨p0, p1, p2, p3, p4, p5, p6, p7⟩ := cellsB hx6; have H6 := Lib.hid h6; have HG6 := Lib.hid hg6; clear h6 hg6 hn6 hx6)
        | fail)
      all_goals
        go_wp2
        have h6 := H6.out
        rw [HLK.out] at h6
        refine ⟨⟨k + 1, by go_num, by omega, ?_, by rw [HTK.out]; exact h6⟩, by simp [intOf]; omega⟩
        exact (hbl.trans ((bel_alloc HW4.out).mono hbl.size)).grown HG6.out (by have := HW4.out.size; simp; omega) (fun j e => (HOWN.out.lt e).1)
    · obtain rfl : k = l.length := by omega
      have hlt' : ¬ (l.length : Int) < (l.length : Int) := by omega
      rw [List.take_length] at HOWN
      go_wp2
      go_ret
      exact ⟨_, _, rfl, bds_rows.2 (HOWN.out.shut (fun _ a => a) (fun j e => .inr (HOWN.out.lt e).1) (by unfold maxLen; omega)), hbl⟩

theorem lbinds_ok : ∀ m, m ≤ 90000 → LBindsOk m
  | 0, _ => fun l bv A w hsz hv => by
    have := len_sizeBs l
    exact lbinds_walk l bv A w (by omega) hv (Lib.hid fun k hk => by omega) (Lib.hid fun k hk => by omega)
  | m + 1, hm => fun l bv A w hsz hv => by
    have := len_sizeBs l
    have hk2 : ∀ k, k < l.length → sizeBs (at' l k).thn + sizeBs (at' l k).els + 1 ≤ sizeB (at' l k) := fun k hk => by
      cases at' l k with
      | mk tn li op num name args thn els => rw [sizeB]; show sizeBs thn + sizeBs els + 1 ≤ _; omega
    exact lbinds_walk l bv A w (by omega) hv (Lib.hid fun k hk v A w h => lbinds_ok m (by omega) _ v A w (by have := sizeB_at l k hk; have := hk2 k hk; omega) h) (Lib.hid fun k hk v A w h => lbinds_ok m (by omega) _ v A w (by have := sizeB_at l k hk; have := hk2 k hk; omega) h)
end Go.Proofs.YtehmmokkjojggabGreatDoor
