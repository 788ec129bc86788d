/- Walks of package backsteplaw43: in, powers; of funeval: Steps. -/
import Derived.Test.YtehmmokkjojggaaDoorZk19
namespace Go.Proofs.YtehmmokkjojggaaDoor
set_option linter.unusedVariables false
set_option linter.unusedSimpArgs false
open Go.RowKit

theorem inB_no {l : List ByteArray} {s : ByteArray} (h : ∀ j, j < l.length → at' l j ≠ s) : inB l s = false := by
  rw [inB, List.any_eq_false]
  intro x hx
  obtain ⟨j, hj, rfl⟩ := List.getElem_of_mem hx
  have := h j hj
  rw [at_eq hj] at this
  simpa using this
theorem inB_yes {l : List ByteArray} {s : ByteArray} {j : Nat} (hj : j < l.length) (h : at' l j = s) : inB l s = true := by
  rw [inB, List.any_eq_true]
  exact ⟨_, at_mem hj, by simpa using h⟩
set_option maxRecDepth 100000 in set_option maxHeartbeats 3200000 in theorem in43_any (v : Value) (l : List ByteArray) (s : ByteArray) (A : Nat → Prop) (w : World) (hv : StrsAt A w v l) :
    Calls Tryd.prog 23 #[v, .string s] w fun e w' => e = .returned (.bool (inB l s)) ∧ w = w' := by
  obtain ⟨hlen, a, cap, rfl⟩ := hv.form
  unfold maxLen at hlen
  go_enter Tryd.func23, Tryd.ntmps23
  go_wp2
  go_loop [9] (fun i => ∃ k : Nat, k ≤ l.length ∧ i = .int .i64 k ∧ ∀ j, j < k → at' l j ≠ s) (fun i => l.length - (intOf i).toNat)
  case atStart => exact ⟨0, Nat.zero_le _, rfl, fun j hj => absurd hj (by omega)⟩
  case round =>
    obtain ⟨k, hk, rfl, hno⟩ := hrel
    have HN := Lib.hid hno
    clear hno
    by_cases hlt : k < l.length
    · obtain ⟨b, off, cap', he, hb, _, _, c0, hs⟩ := hv.at hlt
      simp only [Value.slice.injEq] at he
      obtain ⟨rfl, -, rfl⟩ := he
      by_cases heq : at' l k = s
      · have HF := Lib.hid (inB_yes hlt heq)
        have he : ((at' l k).toList == s.toList) = true := by rw [heq]; simp
        clear heq
        go_wp2
        go_ret
        rw [HF.out]
        exact ⟨rfl, rfl⟩
      · have he : ((at' l k).toList == s.toList) = false := beq_eq_false_iff_ne.2 (fun h => heq (toList_inj h))
        have HQ := Lib.hid heq
        clear heq
        go_wp2
        go_round
        case rel => exact ⟨k + 1, by omega, by go_num, fun j hj => (by
          by_cases e : j = k
          · rw [e]; exact HQ.out
          · exact HN.out j (by omega))⟩
        case measure => simp [intOf]; omega
    · go_wp2
      go_ret
      rw [inB_no (fun j hj => HN.out j (by omega))]
      exact ⟨rfl, rfl⟩
theorem powL_take (l : List Tr) {k : Nat} (hk : k < l.length) (n : Int) : powL (l.take (k + 1)) n = powL (l.take k) n + powT (at' l k) n := by
  rw [powL_w, powL_w, powT_w, List.take_succ_eq_append_getElem hk, wL_append, wL, wL, at_eq hk, Int.mul_add, Int.add_zero]
theorem pow_bound (cs : List Tr) {k : Nat} (hk : k < cs.length) {n : Int} (hn : 0 ≤ n) : 0 ≤ powL (cs.take k) n ∧ 0 ≤ powT (at' cs k) n ∧ powL (cs.take k) n + powT (at' cs k) n ≤ powL cs n := by
  have h := wL_take (fun _ => false) cs hk
  have h1 := wL_pos (fun _ => false) (cs.take k)
  have h2 := wT_pos (fun _ => false) (at' cs k) false
  rw [powL_w, powL_w, powT_w, ← Int.mul_add]
  exact ⟨Int.mul_nonneg hn h1, Int.mul_nonneg hn (by omega), Int.mul_le_mul_of_nonneg_left h hn⟩
theorem stepsL_at (l : List Tr) {k : Nat} (hk : k < l.length) : stepsL (l.take (k + 1)) = stepsL (l.take k) + stepsT (at' l k) := by
  have : ∀ (l : List Tr) (k : Nat), k < l.length → stepsL (l.take (k + 1)) = stepsL (l.take k) + stepsT (at' l k) := by
    intro l
    induction l with
    | nil => intro k h; simp at h
    | cons t r ih =>
      intro k h
      cases k with
      | zero => simp only [List.take_zero, List.take_succ_cons, stepsL]; show _ = 0 + stepsT t; omega
      | succ k =>
        rw [List.take_succ_cons, List.take_succ_cons, stepsL, stepsL, ih k (by simpa using h)]
        show _ = _ + stepsT (at' r k)
        omega
  exact this l k hk

def XPw (m : Nat) : Prop := ∀ (t : Tr) (aa a3 a5 : Option Addr) (k1 k3 k5 : Nat) (n : Int) (A : Nat → Prop) (w : World), stepsT t < m → 0 ≤ n → powT t n ≤ 1152921504606846976 → TrV A w t aa a3 a5 k1 k3 k5 →
  Calls Tryd.prog 24 #[trV t aa a3 a5 k1 k3 k5, .int .i64 n] w fun e w' => e = .returned (.int .i64 (powT t n)) ∧ Below w.heap.size w w'
set_option maxRecDepth 100000 in set_option maxHeartbeats 3200000 in theorem powers_step (m : Nat) (ih : XPw m) : XPw (m + 1) := by
  intro t aa a3 a5 k1 k3 k5 n A w hm hn hb htv
  obtain ⟨f, args, res, cs⟩ := t
  have IH := Lib.hid ih
  have hcl := htv.2.1.form.1
  have hcl : cs.length ≤ maxLen := hcl
  unfold maxLen at hcl
  rw [powT] at hb
  rw [stepsT] at hm
  have hB : Below w.heap.size w (w.alloc (.cells #[.int .i64 f, .slice aa args.length k1, .bool res.list, .int .i64 res.n, .slice a3 res.l.length k3, .slice a5 cs.length k5] 43)) := bel_alloc (Below.refl _ _)
  have HB := Lib.hid hB
  have HTV := Lib.hid (show RowsAt TrE A _ (.slice a5 cs.length k5) cs from (htv.stays (Stays.of_below hB)).2.1)
  have HBOX := Lib.hid (at_new0 w (.cells #[.int .i64 f, .slice aa args.length k1, .bool res.list, .int .i64 res.n, .slice a3 res.l.length k3, .slice a5 cs.length k5] 43))
  obtain ⟨b0, b1, b2, b3, b4, b5⟩ := cells6 HBOX.out
  have HM := Lib.hid hm
  have HBD := Lib.hid hb
  clear ih htv hB hm
  change Calls Tryd.prog 24 #[.agg #[.int .i64 f, .slice aa args.length k1, .bool res.list, .int .i64 res.n, .slice a3 res.l.length k3, .slice a5 cs.length k5], .int .i64 n] w _
  have hp2 : 0 ≤ powL cs (2 * n) := by rw [powL_w]; exact Int.mul_nonneg (by omega) (wL_pos _ _)
  have hw2 : IntKind.i64.wrap (2 * n) = 2 * n := by rw [IntKind.wrap_i64]; omega
  clear hb hp2
  go_enter Tryd.func24, Tryd.ntmps24
  go_wp2
  generalize (w.alloc (.cells #[.int .i64 f, .slice aa args.length k1, .bool res.list, .int .i64 res.n, .slice a3 res.l.length k3, .slice a5 cs.length k5] 43)) = W at *
  go_loopw [5, 12] (fun s i wr => ∃ k : Nat, k ≤ cs.length ∧ i = .int .i64 k ∧ s = .int .i64 (n + powL (cs.take k) (2 * n)) ∧ Below W.heap.size W wr) (fun _ i _ => cs.length - (intOf i).toNat)
  case atStart => exact ⟨0, Nat.zero_le _, rfl, by simp [powL], Below.refl _ _⟩
  case round =>
    obtain ⟨k, hk, rfl, rfl, hbl⟩ := hrel
    have HBL := Lib.hid hbl
    by_cases hlt : k < cs.length
    · have hpb := pow_bound cs hlt (n := 2 * n) (by omega)
      have hbd := HBD.out
      have HTK := Lib.hid (powL_take cs hlt (2 * n))
      obtain ⟨b, off, cap, ca, c3, c5, l1, l3, l5, he, hb, y0, y1, y2, y3, y4, y5, htc⟩ := trs_at (HTV.out.stays (Stays.of_below hbl)) hlt
      simp only [Value.slice.injEq] at he
      obtain ⟨rfl, -, rfl⟩ := he
      have hst := steps_at cs k hlt
      obtain ⟨x0, x1, x2, x3, x4, x5⟩ := cells6 (at_new0 wr (.cells #[.int .i64 (at' cs k).f, .slice ca (at' cs k).args.length l1, .bool (at' cs k).res.list, .int .i64 (at' cs k).res.n, .slice c3 (at' cs k).res.l.length l3, .slice c5 (at' cs k).calls.length l5] 43))
      have HBX : Hid (Below W.heap.size W (wr.alloc (.cells #[.int .i64 (at' cs k).f, .slice ca (at' cs k).args.length l1, .bool (at' cs k).res.list, .int .i64 (at' cs k).res.n, .slice c3 (at' cs k).res.l.length l3, .slice c5 (at' cs k).calls.length l5] 43))) := Lib.hid (bel_alloc hbl)
      have HBY : Hid (Below wr.heap.size wr (wr.alloc (.cells #[.int .i64 (at' cs k).f, .slice ca (at' cs k).args.length l1, .bool (at' cs k).res.list, .int .i64 (at' cs k).res.n, .slice c3 (at' cs k).res.l.length l3, .slice c5 (at' cs k).calls.length l5] 43))) := Lib.hid (bel_alloc (Below.refl _ _))
      have HC : Hid (∀ w1, Below wr.heap.size wr w1 → Calls Tryd.prog 24 #[.agg #[.int .i64 (at' cs k).f, .slice ca (at' cs k).args.length l1, .bool (at' cs k).res.list, .int .i64 (at' cs k).res.n, .slice c3 (at' cs k).res.l.length l3, .slice c5 (at' cs k).calls.length l5], .int .i64 (2 * n)] w1 fun e w' => e = .returned (.int .i64 (powT (at' cs k) (2 * n))) ∧ Below w1.heap.size w1 w') := Lib.hid (fun w1 h1 => IH.out (at' cs k) ca c3 c5 l1 l3 l5 (2 * n) A w1 (by have := HM.out; omega) (by omega) (by omega) (htc.stays (Stays.of_below h1)))
      have hwr : IntKind.i64.wrap (n + powL (cs.take k) (2 * n) + powT (at' cs k) (2 * n)) = n + powL (cs.take k) (2 * n) + powT (at' cs k) (2 * n) := by rw [IntKind.wrap_i64]; omega
      generalize powL (cs.take k) (2 * n) = X at *
      generalize powT (at' cs k) (2 * n) = Y at *
      clear hpb hbd hst htc hbl
      go_wp2_with fail
      refine (HC.out _ HBY.out).mono ?_
      rintro e w5 ⟨rfl, hb5⟩
      have HB5 := Lib.hid (HBX.out.trans (hb5.mono HBX.out.size))
      clear hb5 x0 x1 x2 x3 x4 x5 HC
      go_wp2
      go_roundw
      case rel => exact ⟨k + 1, by omega, by go_num, by rw [HTK.out, Int.add_assoc], HB5.out⟩
      case measure => simp [intOf]; omega
    · obtain rfl : k = cs.length := by omega
      have hlt' : ¬ (cs.length : Int) < (cs.length : Int) := by omega
      rw [List.take_length]
      clear hbl hlt
      go_wp2
      go_ret
      rw [powT]
      exact ⟨rfl, HB.out.trans (HBL.out.mono HB.out.size)⟩
theorem powers_any : ∀ m : Nat, XPw m := by
  intro m
  induction m with
  | zero => intro t aa a3 a5 k1 k3 k5 n A w hm; have := stepsT_pos t; omega
  | succ m ih => exact powers_step m ih

def XSt (m : Nat) : Prop := ∀ (t : Tr) (aa a3 a5 : Option Addr) (k1 k3 k5 : Nat) (A : Nat → Prop) (w : World), stepsT t < m → stepsT t ≤ 1152921504606846976 → TrV A w t aa a3 a5 k1 k3 k5 →
  Calls Tryd.prog 25 #[trV t aa a3 a5 k1 k3 k5] w fun e w' => e = .returned (.int .i64 (stepsT t)) ∧ Below w.heap.size w w'
set_option maxRecDepth 100000 in set_option maxHeartbeats 3200000 in theorem steps_step (m : Nat) (ih : XSt m) : XSt (m + 1) := by
  intro t aa a3 a5 k1 k3 k5 A w hm hb htv
  obtain ⟨f, args, res, cs⟩ := t
  have IH := Lib.hid ih
  have hcl := htv.2.1.form.1
  have hcl : cs.length ≤ maxLen := hcl
  unfold maxLen at hcl
  rw [stepsT] at hm hb
  have hB : Below w.heap.size w (w.alloc (.cells #[.int .i64 f, .slice aa args.length k1, .bool res.list, .int .i64 res.n, .slice a3 res.l.length k3, .slice a5 cs.length k5] 43)) := bel_alloc (Below.refl _ _)
  have HB := Lib.hid hB
  have HTV := Lib.hid (show RowsAt TrE A _ (.slice a5 cs.length k5) cs from (htv.stays (Stays.of_below hB)).2.1)
  have HBOX := Lib.hid (at_new0 w (.cells #[.int .i64 f, .slice aa args.length k1, .bool res.list, .int .i64 res.n, .slice a3 res.l.length k3, .slice a5 cs.length k5] 43))
  obtain ⟨b0, b1, b2, b3, b4, b5⟩ := cells6 HBOX.out
  have HM := Lib.hid hm
  have HBD := Lib.hid hb
  clear ih htv hB hm hb
  change Calls Tryd.prog 25 #[.agg #[.int .i64 f, .slice aa args.length k1, .bool res.list, .int .i64 res.n, .slice a3 res.l.length k3, .slice a5 cs.length k5]] w _
  go_enter Tryd.func25, Tryd.ntmps25
  go_wp2
  generalize (w.alloc (.cells #[.int .i64 f, .slice aa args.length k1, .bool res.list, .int .i64 res.n, .slice a3 res.l.length k3, .slice a5 cs.length k5] 43)) = W at *
  go_loopw [3, 9] (fun s i wr => ∃ k : Nat, k ≤ cs.length ∧ i = .int .i64 k ∧ s = .int .i64 (1 + stepsL (cs.take k)) ∧ Below W.heap.size W wr) (fun _ i _ => cs.length - (intOf i).toNat)
  case atStart => exact ⟨0, Nat.zero_le _, rfl, by simp [stepsL], Below.refl _ _⟩
  case round =>
    obtain ⟨k, hk, rfl, rfl, hbl⟩ := hrel
    have HBL := Lib.hid hbl
    by_cases hlt : k < cs.length
    · have hbd := HBD.out
      have hta := stepsL_at cs hlt
      have hsl := stepsL_take cs (k + 1)
      have hs0 := stepsL_take (cs.take k) 0
      rw [List.take_zero, stepsL] at hs0
      have hst := steps_at cs k hlt
      have hsp := stepsT_pos (at' cs k)
      have HTK := Lib.hid hta
      obtain ⟨b, off, cap, ca, c3, c5, l1, l3, l5, he, hb, y0, y1, y2, y3, y4, y5, htc⟩ := trs_at (HTV.out.stays (Stays.of_below hbl)) hlt
      simp only [Value.slice.injEq] at he
      obtain ⟨rfl, -, rfl⟩ := he
      obtain ⟨x0, x1, x2, x3, x4, x5⟩ := cells6 (at_new0 wr (.cells #[.int .i64 (at' cs k).f, .slice ca (at' cs k).args.length l1, .bool (at' cs k).res.list, .int .i64 (at' cs k).res.n, .slice c3 (at' cs k).res.l.length l3, .slice c5 (at' cs k).calls.length l5] 43))
      have HBX : Hid (Below W.heap.size W (wr.alloc (.cells #[.int .i64 (at' cs k).f, .slice ca (at' cs k).args.length l1, .bool (at' cs k).res.list, .int .i64 (at' cs k).res.n, .slice c3 (at' cs k).res.l.length l3, .slice c5 (at' cs k).calls.length l5] 43))) := Lib.hid (bel_alloc hbl)
      have HBY : Hid (Below wr.heap.size wr (wr.alloc (.cells #[.int .i64 (at' cs k).f, .slice ca (at' cs k).args.length l1, .bool (at' cs k).res.list, .int .i64 (at' cs k).res.n, .slice c3 (at' cs k).res.l.length l3, .slice c5 (at' cs k).calls.length l5] 43))) := Lib.hid (bel_alloc (Below.refl _ _))
      have HC : Hid (∀ w1, Below wr.heap.size wr w1 → Calls Tryd.prog 25 #[.agg #[.int .i64 (at' cs k).f, .slice ca (at' cs k).args.length l1, .bool (at' cs k).res.list, .int .i64 (at' cs k).res.n, .slice c3 (at' cs k).res.l.length l3, .slice c5 (at' cs k).calls.length l5]] w1 fun e w' => e = .returned (.int .i64 (stepsT (at' cs k))) ∧ Below w1.heap.size w1 w') := Lib.hid (fun w1 h1 => IH.out (at' cs k) ca c3 c5 l1 l3 l5 A w1 (by have := HM.out; omega) (by omega) (htc.stays (Stays.of_below h1)))
      have hwr : IntKind.i64.wrap (1 + stepsL (cs.take k) + stepsT (at' cs k)) = 1 + stepsL (cs.take k) + stepsT (at' cs k) := by rw [IntKind.wrap_i64]; omega
      generalize stepsL (cs.take k) = X at *
      generalize stepsT (at' cs k) = Y at *
      clear hta hsl hs0 hst hsp htc hbl hbd
      go_wp2_with fail
      refine (HC.out _ HBY.out).mono ?_
      rintro e w5 ⟨rfl, hb5⟩
      have HB5 := Lib.hid (HBX.out.trans (hb5.mono HBX.out.size))
      clear hb5 x0 x1 x2 x3 x4 x5 HC
      go_wp2
      go_roundw
      case rel => exact ⟨k + 1, by omega, by go_num, by rw [HTK.out, Int.add_assoc], HB5.out⟩
      case measure => simp [intOf]; omega
    · obtain rfl : k = cs.length := by omega
      have hlt' : ¬ (cs.length : Int) < (cs.length : Int) := by omega
      rw [List.take_length]
      clear hbl hlt
      go_wp2
      go_ret
      rw [stepsT]
      exact ⟨rfl, HB.out.trans (HBL.out.mono HB.out.size)⟩
theorem steps_any : ∀ m : Nat, XSt m := by
  intro m
  induction m with
  | zero => intro t aa a3 a5 k1 k3 k5 A w hm; have := stepsT_pos t; omega
  | succ m ih => exact steps_step m ih
end Go.Proofs.YtehmmokkjojggaaDoor
