/- Walks of package ast: Equal; slices.EqualFunc at trees (a tree equals itself). -/
import Derived.Test.YtehmmokkjojggabGreatDoorZq28
namespace Go.Proofs.YtehmmokkjojggabGreatDoor
set_option linter.unusedVariables false
set_option linter.unusedSimpArgs false
open Go.RowKit

def EqN (m : Nat) : Prop := ∀ (n : Nd) (v v' : Value) (A A' : Nat → Prop) (w : World), sizeN n ≤ m → NdAt A w v n → NdAt A' w v' n → Calls Tryz.prog 59 #[v, v'] w fun e w' => e = .returned (.bool true) ∧ Below w.heap.size w w'
theorem enters_equal : Enters 59 := fun args w => by kernel_rfl
set_option maxRecDepth 100000 in set_option maxHeartbeats 3200000 in theorem eqKids (m : Nat) (ih : EqN m) (l : List Nd) (v v' : Value) (A A' : Nat → Prop) (w : World) (hs : ∀ j, j < l.length → sizeN (at' l j) ≤ m) (hv : KidsAt A w v l) (hv' : KidsAt A' w v' l) :
    Calls Tryz.prog 97 #[v, v', .func (.func 59) #[] #[]] w fun e w' => e = .returned (.bool true) ∧ Below w.heap.size w w' := by
  have hF := enters_equal
  obtain ⟨hlen, ka, kc, rfl⟩ := hv.form
  obtain ⟨_, ka', kc', rfl⟩ := hv'.form
  have HP := Lib.hid ih
  have HS := Lib.hid hs
  have HV := Lib.hid hv
  have HV' := Lib.hid hv'
  unfold Enters at hF
  unfold maxLen at hlen
  clear ih hs hv hv'
  go_enter Tryz.func97, Tryz.ntmps97
  go_wp2
  go_loopw [17] (fun i wr => ∃ k : Nat, k ≤ l.length ∧ i = .int .i64 k ∧ Below w.heap.size w wr) (fun i _ => l.length - (intOf i).toNat)
  case atStart => exact ⟨0, Nat.zero_le _, rfl, Below.refl _ _⟩
  case round =>
    obtain ⟨k, hkk, rfl, hbl⟩ := hrel
    have HBL := Lib.hid hbl
    by_cases hlt : k < l.length
    · obtain ⟨b, off, cap, kb, kd, he, hb, _, _, c0, c1, c2, c3, hnd⟩ := (HV.out.stays (Stays.of_below hbl)).at hlt
      obtain ⟨b', off', cap', kb', kd', he', hb', _, _, c0', c1', c2', c3', hnd'⟩ := (HV'.out.stays (Stays.of_below hbl)).at hlt
      simp only [Value.slice.injEq] at he he'
      obtain ⟨rfl, -, rfl⟩ := he
      obtain ⟨rfl, -, rfl⟩ := he'
      have i0 : (0 : Int) ≤ (k : Int) := by omega
      have i1 : (k : Int) < (l.length : Int) := by omega
      have HC : Hid (∀ w1, Below wr.heap.size wr w1 → Calls Tryz.prog 59 #[.agg #[.int .u8 (at' l k).kind, .int .i64 (at' l k).num, .string (at' l k).name, .slice kb (at' l k).kids.length kd], .agg #[.int .u8 (at' l k).kind, .int .i64 (at' l k).num, .string (at' l k).name, .slice kb' (at' l k).kids.length kd']] w1 fun e w' => e = .returned (.bool true) ∧ Below w1.heap.size w1 w') := Lib.hid (fun w1 h => HP.out _ _ _ A A' _ (HS.out k hlt) (hnd.stays (Stays.of_below h)) (hnd'.stays (Stays.of_below h)))
      have hA1 : Below wr.heap.size wr (wr.alloc (.cells #[.int .u8 (at' l k).kind, .int .i64 (at' l k).num, .string (at' l k).name, .slice kb (at' l k).kids.length kd] 35)) := bel_alloc (Below.refl _ _)
      have d1 := (hA1.cell (p := ⟨b', _, none⟩) hb').trans c0'
      have d2 := (hA1.cell (p := ⟨b', _, none⟩) hb').trans c1'
      have d3 := (hA1.cell (p := ⟨b', _, none⟩) hb').trans c2'
      have d4 := (hA1.cell (p := ⟨b', _, none⟩) hb').trans c3'
      clear hnd hnd' hbl
      go_wp2_with fail
      refine (HC.out _ (bel_alloc (bel_alloc (Below.refl _ _)))).mono ?_
      rintro e w2 ⟨rfl, hb2⟩
      have hB2 : Below w.heap.size w w2 := HBL.out.trans (Below.mono (bel_step hb2 (bel_alloc (bel_alloc (Below.refl _ _)))) HBL.out.size)
      go_wp2
      go_roundw
      case rel => exact ⟨k + 1, by omega, by go_num, hB2⟩
      case measure => simp [intOf]; omega
    · obtain rfl : k = l.length := by omega
      have hlt' : ¬ (l.length : Int) < (l.length : Int) := by omega
      clear hbl
      go_wp2
      go_ret
      exact ⟨rfl, HBL.out⟩
set_option maxRecDepth 100000 in set_option maxHeartbeats 3200000 in theorem equal_upto (m : Nat) : EqN m := by
  induction m with
  | zero => intro n v v' A A' w hm; have := size_pos n; omega
  | succ m ih =>
    intro n v v' A A' w hm hv hv'
    obtain ⟨hok, hlen, ka, kc, rfl, hk⟩ := hv.open
    obtain ⟨_, _, ka', kc', rfl, hk'⟩ := hv'.open
    unfold maxLen at hlen
    obtain ⟨W, hW⟩ : ∃ W, W = (w.alloc (.cells #[.int .u8 n.kind, .int .i64 n.num, .string n.name, .slice ka n.kids.length kc] 35)).alloc (.cells #[.int .u8 n.kind, .int .i64 n.num, .string n.name, .slice ka' n.kids.length kc'] 35) := ⟨_, rfl⟩
    have hA : Below w.heap.size w W := by subst hW; exact bel_alloc (bel_alloc (Below.refl _ _))
    have HA := Lib.hid hA
    have HN : Hid (W.heap[w.heap.size]? = some (.cells #[.int .u8 n.kind, .int .i64 n.num, .string n.name, .slice ka n.kids.length kc] 35 (0, 0))) := Lib.hid (by subst hW; exact at_old _ _ _)
    have HN' : Hid (W.heap[w.heap.size + 1]? = some (.cells #[.int .u8 n.kind, .int .i64 n.num, .string n.name, .slice ka' n.kids.length kc'] 35 (0, 0))) := Lib.hid (by subst hW; exact at_new _ _ _)
    have HK : Hid (∀ w1, Below W.heap.size W w1 → Calls Tryz.prog 97 #[.slice ka n.kids.length kc, .slice ka' n.kids.length kc', .func (.func 59) #[] #[]] w1 fun e w' => e = .returned (.bool true) ∧ Below w1.heap.size w1 w') := Lib.hid (fun w1 h => eqKids m ih n.kids _ _ A A' w1 (fun j hj => by have := size_kid n j hj; omega) ((hk.stays (Stays.of_below hA)).stays (Stays.of_below h)) ((hk'.stays (Stays.of_below hA)).stays (Stays.of_below h)))
    clear hv hk hv' hk' hA
    subst hW
    go_enter Tryz.func59, Tryz.ntmps59
    go_wp2_with (go_at_call 97; refine (HK.out _ (Below.refl _ _)).mono ?_; rintro e w2 ⟨rfl, hb2⟩)
    go_ret
    exact ⟨rfl, HA.out.trans (hb2.mono HA.out.size)⟩
theorem equal_any (n : Nd) (v v' : Value) (A A' : Nat → Prop) (w : World) (hv : NdAt A w v n) (hv' : NdAt A' w v' n) : Calls Tryz.prog 59 #[v, v'] w fun e w' => e = .returned (.bool true) ∧ Below w.heap.size w w' := equal_upto _ n v v' A A' w (Nat.le_refl _) hv hv'
end Go.Proofs.YtehmmokkjojggabGreatDoor
