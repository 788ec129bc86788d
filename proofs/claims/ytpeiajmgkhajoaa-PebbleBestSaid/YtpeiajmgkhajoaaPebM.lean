/- Walk of Legal. -/
import Derived.Test.YtpeiajmgkhajoaaPebK
import Derived.Test.YtpeiajmgkhajoaaPebL
import Derived.Test.YtpeiajmgkhajoaaMap
namespace Go.Proofs.Ytpeiajmgkhajoaa
set_option linter.unusedVariables false
open Go.RowKit

theorem TM : MapT Try.prog 47 3 4 := ⟨Try.underlying47, Try.underlying3, Try.underlying4, fun _ => by kernel_rfl⟩

/-- a configuration as a set of numbers -/
def sOf (on : List Bool) (x : Int) : Bool := decide (0 ≤ x) && onAt on x.toNat
theorem sOf_nat (on : List Bool) (a : Nat) : sOf on a = onAt on a := by simp [sOf]
theorem sOf_set (on : List Bool) (j : Nat) (b : Bool) (h : j < on.length) : (fun y : Int => if y = (j : Int) then b else sOf on y) = sOf (on.set j b) := by
  funext y
  unfold sOf
  by_cases hy : 0 ≤ y
  · obtain ⟨i, rfl⟩ := Int.eq_ofNat_of_zero_le hy
    have := onAt_set on j i b h
    by_cases e : i = j
    · subst e; simp [this]
    · have e' : ¬ (i : Int) = (j : Int) := by omega
      simp [this, e, e']
  · have : ¬ y = (j : Int) := by omega
    simp [hy, this]

theorem drop_nth (l : List Int) (k : Nat) (h : k < l.length) : l.drop k = nth l k :: l.drop (k + 1) := by
  rw [List.drop_eq_getElem_cons h]; simp [nth, h]

set_option maxHeartbeats 3200000 in
theorem legal_any (n : Int) (v : Value) (l : List Int) (w : World) (hv : IntsAt w v l) (hs : Small l) (hn0 : -9223372036854775808 ≤ n) (hn1 : n ≤ 1000000) :
    Calls Try.prog 18 #[.int .i64 n, v] w fun e w' => e = .returned (.tuple #[.int .i64 ((legalM n l).1 : Nat), .bool (legalM n l).2]) ∧ Below w.heap.size w w' := by
  obtain ⟨hlen, hfit, a, cap, rfl, _, hcell⟩ := hv
  have hmm := @run_makeMap Try.prog
  go_enter Try.func18, Try.ntmps18
  go_wp2
  go_loopg [13] l.length (fun g si wr => ∃ (k : Nat) (on : List Bool), k ≤ l.length ∧ g = l.length - k ∧ si = .int .i64 k ∧ on.length = n.toNat + 1 ∧ SetMap Try.prog 3 4 wr w.heap.size k (sOf on) (cnt on) ∧ legalM n l = lgGo n on (l.drop k) k ∧ Below w.heap.size w wr)
  case atStart =>
    refine ⟨0, on0 n, by omega, rfl, rfl, by simp [on0], ?_, rfl, (Below.refl _ _).alloc (Nat.le_refl _) _⟩
    have e1 : sOf (on0 n) = fun _ => false := by
      funext x
      simp only [sOf, onAt, on0, List.getElem?_replicate]
      split <;> simp
    have e2 : cnt (on0 n) = 0 := by simp [cnt, on0, List.countP_replicate]
    rw [e1, e2]; exact SetMap.made _ _ _ _
  case round =>
    obtain ⟨k, on, hk, rfl, rfl, hon, hmap, hgo, hbl⟩ := hrel
    have HON := Lib.hid hon
    clear hon
    by_cases hlt : k < l.length
    · obtain ⟨b, off, rfl, hb, hc⟩ := hcell (by omega)
      have hx : wr.cell? ⟨b, off + k, none⟩ = some (.int .i64 (nth l k)) := (hbl.cell (by exact hb)).trans (hc k hlt)
      have hsm := hs _ (nth_mem hlt)
      rw [drop_nth l k hlt, lgGo] at hgo
      have HGO := Lib.hid hgo
      clear hc hcell hgo
      generalize nth l k = m at *
      obtain ⟨c, hc⟩ : ∃ c : Nat, c = m.natAbs := ⟨_, rfl⟩
      have hl1 := hmap.look TM (x := (c : Int) - 1) (by omega)
      have hl2 := hmap.look TM (x := (c : Int)) (by omega)
      have hok : lgOk n on m = (decide (1 ≤ c) && decide ((c : Int) ≤ n) && (decide (c = 1) || onAt on (c - 1)) && (onAt on c != decide (0 < m))) := by rw [lgOk, ← hc]
      have hst : lgStep on m = on.set c (decide (0 < m)) := by rw [lgStep, ← hc]
      have HOK := Lib.hid hok
      have HST := Lib.hid hst
      clear hok hst
      rw [sOf_nat] at hl2
      have hsz := hbl.size
      by_cases hc0 : c = 0
      · obtain rfl : m = 0 := by omega
        clear hl1 hl2 hc
        have HF : Hid (lgOk n on 0 = false) := by show _ = _; rw [HOK.out, hc0]; rfl
        clear hc0
        go_wp2
        go_ret2
        exact ⟨by rw [HGO.out, HF.out]; rfl, hbl⟩
      · by_cases hcn : (c : Int) ≤ n
        · have hl1' : sOf on ((c : Int) - 1) = onAt on (c - 1) := by rw [show ((c : Int) - 1) = ((c - 1 : Nat) : Int) by omega, sOf_nat]
          rw [hl1'] at hl1
          clear hl1'
          have hcl : c < on.length := by rw [HON.out]; omega
          have e1 : decide (1 ≤ c) = true := by simp; omega
          have e2 : decide ((c : Int) ≤ n) = true := by simpa using hcn
          have HOK2 : Hid (lgOk n on m = ((decide (c = 1) || onAt on (c - 1)) && (onAt on c != decide (0 < m)))) := by show _ = _; rw [HOK.out, e1, e2]; rfl
          clear HOK e1 e2
          have q1 : decide ((c : Int) < 1) = false := by simp; omega
          have q2 : decide (n < (c : Int)) = false := by simp; omega
          have HSET := Lib.hid (sOf_set on c (decide (0 < m)) hcl)
          have HT := Lib.hid (cnt_set_true on c hcl)
          have HFF := Lib.hid (cnt_set_false on c hcl)
          by_cases hc1 : c = 1
          · have q3 : decide (1 < (c : Int)) = false := by simp; omega
            have HOK3 : Hid (lgOk n on m = (onAt on c != decide (0 < m))) := by show _ = _; rw [HOK2.out, decide_eq_true hc1]; rfl
            clear HOK2 hl1
            have HC1 := Lib.hid hc1
            clear hc1
            rcases Int.lt_or_gt_of_ne (show m ≠ 0 by omega) with hneg | hpos
            · obtain rfl : m = -(c : Int) := by omega
              have z1 : decide (0 < -(c : Int)) = false := by simp
              have z2 : decide ((c : Int) < 0) = false := by simp
              cases hb2 : onAt on c with
              | false =>
                have HF : Hid (lgOk n on (-(c : Int)) = false) := by show _ = _; rw [HOK3.out, hb2, z1]; rfl
                rw [hb2] at hl2
                clear hb2 hc HOK3
                go_wp2
                go_ret2
                exact ⟨by rw [HGO.out, HF.out]; rfl, hbl⟩
              | true =>
                have HF : Hid (lgOk n on (-(c : Int)) = true) := by show _ = _; rw [HOK3.out, hb2, z1]; rfl
                obtain ⟨w', hrun, hmap', hg⟩ := hmap.drop TM (x := (c : Int)) (by omega) (by rw [sOf_nat]; exact hb2) 0
                have hsize : cnt on - 1 = cnt (on.set c false) := by have := HFF.out hb2; omega
                rw [z1] at HSET
                rw [hsize, HSET.out] at hmap'
                have hbl' : Below w.heap.size w w' := hbl.grown hg (by omega) (fun k hk => by simp at hk; omega)
                rw [z1] at HST
                rw [hb2] at hl2
                clear hb2 hc HOK3 HSET HT HFF hsize hg hmap
                go_wp2
                go_roundg (l.length - (k + 1))
                case measure => omega
                case rel => exact ⟨k + 1, on.set c false, by omega, rfl, by go_num, by simp [HON.out], (let ⟨D, d1, d2⟩ := hmap'; ⟨D, d1.mono (by omega), d2⟩), by rw [HGO.out, HF.out, HST.out]; rfl, hbl'⟩
            · obtain rfl : m = (c : Int) := by omega
              have z1 : decide (0 < (c : Int)) = true := by simp; omega
              have z2 : decide (0 < c) = true := by simp; omega
              cases hb2 : onAt on c with
              | true =>
                have HF : Hid (lgOk n on (c : Int) = false) := by show _ = _; rw [HOK3.out, hb2, z1]; rfl
                rw [hb2] at hl2
                clear hb2 hc HOK3
                go_wp2
                go_ret2
                exact ⟨by rw [HGO.out, HF.out]; rfl, hbl⟩
              | false =>
                have HF : Hid (lgOk n on (c : Int) = true) := by show _ = _; rw [HOK3.out, hb2, z1]; rfl
                obtain ⟨w', hrun, hmap', hg⟩ := hmap.add TM (x := (c : Int)) (by omega) (by rw [sOf_nat]; exact hb2) (by unfold maxLen; omega)
                have hsize : cnt on + 1 = cnt (on.set c true) := (HT.out hb2).symm
                rw [z1] at HSET
                rw [hsize, HSET.out] at hmap'
                have hbl' : Below w.heap.size w w' := hbl.grown hg (by omega) (fun k hk => by simp at hk; omega)
                rw [z1] at HST
                rw [hb2] at hl2
                clear hb2 hc HOK3 HSET HT HFF hsize hg hmap
                go_wp2
                go_roundg (l.length - (k + 1))
                case measure => omega
                case rel => exact ⟨k + 1, on.set c true, by omega, rfl, by go_num, by simp [HON.out], hmap', by rw [HGO.out, HF.out, HST.out]; rfl, hbl'⟩
          · have q3 : decide (1 < (c : Int)) = true := by simp; omega
            cases hb1 : onAt on (c - 1) with
            | false =>
              have HF : Hid (lgOk n on m = false) := by show _ = _; rw [HOK2.out, hb1, decide_eq_false hc1]; rfl
              rw [hb1] at hl1
              clear hb1 HOK2
              rcases Int.lt_or_gt_of_ne (show m ≠ 0 by omega) with hneg | hpos
              · obtain rfl : m = -(c : Int) := by omega
                clear hc
                go_wp2
                go_ret2
                exact ⟨by rw [HGO.out, HF.out]; rfl, hbl⟩
              · obtain rfl : m = (c : Int) := by omega
                clear hc
                go_wp2
                go_ret2
                exact ⟨by rw [HGO.out, HF.out]; rfl, hbl⟩
            | true =>
              have HOK3 : Hid (lgOk n on m = (onAt on c != decide (0 < m))) := by show _ = _; rw [HOK2.out, hb1]; simp
              rw [hb1] at hl1
              clear hb1 HOK2
              rcases Int.lt_or_gt_of_ne (show m ≠ 0 by omega) with hneg | hpos
              · obtain rfl : m = -(c : Int) := by omega
                have z1 : decide (0 < -(c : Int)) = false := by simp
                have z2 : decide ((c : Int) < 0) = false := by simp
                cases hb2 : onAt on c with
                | false =>
                  have HF : Hid (lgOk n on (-(c : Int)) = false) := by show _ = _; rw [HOK3.out, hb2, z1]; rfl
                  rw [hb2] at hl2
                  clear hb2 hc HOK3
                  go_wp2
                  go_ret2
                  exact ⟨by rw [HGO.out, HF.out]; rfl, hbl⟩
                | true =>
                  have HF : Hid (lgOk n on (-(c : Int)) = true) := by show _ = _; rw [HOK3.out, hb2, z1]; rfl
                  obtain ⟨w', hrun, hmap', hg⟩ := hmap.drop TM (x := (c : Int)) (by omega) (by rw [sOf_nat]; exact hb2) 0
                  have hsize : cnt on - 1 = cnt (on.set c false) := by have := HFF.out hb2; omega
                  rw [z1] at HSET
                  rw [hsize, HSET.out] at hmap'
                  have hbl' : Below w.heap.size w w' := hbl.grown hg (by omega) (fun k hk => by simp at hk; omega)
                  rw [z1] at HST
                  rw [hb2] at hl2
                  clear hb2 hc HOK3 HSET HT HFF hsize hg hmap
                  go_wp2
                  go_roundg (l.length - (k + 1))
                  case measure => omega
                  case rel => exact ⟨k + 1, on.set c false, by omega, rfl, by go_num, by simp [HON.out], (let ⟨D, d1, d2⟩ := hmap'; ⟨D, d1.mono (by omega), d2⟩), by rw [HGO.out, HF.out, HST.out]; rfl, hbl'⟩
              · obtain rfl : m = (c : Int) := by omega
                have z1 : decide (0 < (c : Int)) = true := by simp; omega
                have z2 : decide (0 < c) = true := by simp; omega
                cases hb2 : onAt on c with
                | true =>
                  have HF : Hid (lgOk n on (c : Int) = false) := by show _ = _; rw [HOK3.out, hb2, z1]; rfl
                  rw [hb2] at hl2
                  clear hb2 hc HOK3
                  go_wp2
                  go_ret2
                  exact ⟨by rw [HGO.out, HF.out]; rfl, hbl⟩
                | false =>
                  have HF : Hid (lgOk n on (c : Int) = true) := by show _ = _; rw [HOK3.out, hb2, z1]; rfl
                  obtain ⟨w', hrun, hmap', hg⟩ := hmap.add TM (x := (c : Int)) (by omega) (by rw [sOf_nat]; exact hb2) (by unfold maxLen; omega)
                  have hsize : cnt on + 1 = cnt (on.set c true) := (HT.out hb2).symm
                  rw [z1] at HSET
                  rw [hsize, HSET.out] at hmap'
                  have hbl' : Below w.heap.size w w' := hbl.grown hg (by omega) (fun k hk => by simp at hk; omega)
                  rw [z1] at HST
                  rw [hb2] at hl2
                  clear hb2 hc HOK3 HSET HT HFF hsize hg hmap
                  go_wp2
                  go_roundg (l.length - (k + 1))
                  case measure => omega
                  case rel => exact ⟨k + 1, on.set c true, by omega, rfl, by go_num, by simp [HON.out], hmap', by rw [HGO.out, HF.out, HST.out]; rfl, hbl'⟩
        · have HF : Hid (lgOk n on m = false) := by
            show _ = _
            rw [HOK.out, decide_eq_false hcn]; simp
          have q1 : decide ((c : Int) < 1) = false := by simp; omega
          have q2 : decide (n < (c : Int)) = true := by simp; omega
          clear hl1 hl2
          rcases Int.lt_or_gt_of_ne (show m ≠ 0 by omega) with hneg | hpos
          · obtain rfl : m = -(c : Int) := by omega
            clear hc
            go_wp2
            go_ret2
            exact ⟨by rw [HGO.out, HF.out]; rfl, hbl⟩
          · obtain rfl : m = (c : Int) := by omega
            clear hc
            go_wp2
            go_ret2
            exact ⟨by rw [HGO.out, HF.out]; rfl, hbl⟩
    · have hdr : l.drop k = [] := List.drop_eq_nil_of_le (by omega)
      rw [hdr, lgGo] at hgo
      obtain rfl : k = l.length := by omega
      have hl1 := fun (nq : Nat) (ty : TypeId) => SetMap.len TM (show SetMap Try.prog 3 4 (wr.drewN nq) w.heap.size l.length (sOf on) (cnt on) from hmap) ty
      have hl2 := fun (nq : Nat) => SetMap.look TM (show SetMap Try.prog 3 4 (wr.drewN nq) w.heap.size l.length (sOf on) (cnt on) from hmap) (x := n) (by omega)
      have hbig := cnt_le on
      have HGO := Lib.hid hgo
      have hcl : cnt on ≤ 1000001 := by have := HON.out; omega
      clear hdr hgo hbig
      by_cases h1 : cnt on = 1
      · have q1 : (((cnt on : Nat) : Int) == 1) = true := by simp [h1]
        have HC := Lib.hid h1
        clear h1
        go_wp2
        go_quiet (fail)
        go_wp2
        go_ret2
        refine ⟨?_, below_drewN hbl _⟩
        have e : complete n on = sOf on n := by rw [complete, decide_eq_true HC.out]; rfl
        rw [HGO.out, e]
        rfl
      · have q1 : (((cnt on : Nat) : Int) == 1) = false := by simp; omega
        have HC := Lib.hid h1
        clear h1
        go_wp2
        go_quiet (fail)
        go_wp2
        go_ret2
        refine ⟨?_, below_drewN hbl _⟩
        have e : complete n on = false := by rw [complete, decide_eq_false HC.out]; rfl
        rw [HGO.out, e]
        rfl
end Go.Proofs.Ytpeiajmgkhajoaa
