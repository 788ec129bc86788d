/- Walk of the reference's Legal. -/
import Derived.Test.YtpeiajmgkhajoaaPebM
namespace Go.Proofs.Ytpeiajmgkhajoaa
set_option linter.unusedVariables false
open Go.RowKit

theorem TB : RowT Try.prog 48 4 (.bool false) 1 1 := ⟨Try.underlying48, by kernel_rfl⟩

/-- a slice of bools of the call's own -/
def OwnB (w : World) (base e : Nat) (v : Value) (on : List Bool) : Prop := w.ownsRow base e 1 v on.length (on.map Value.bool)

theorem OwnB.at {w : World} {base e : Nat} {v : Value} {on : List Bool} (h : OwnB w base e v on) (hn : 0 < on.length) :
    ∃ g cap, v = .slice (some ⟨g, 0, none⟩) on.length cap ∧ g < w.heap.size ∧ (∀ j, w.frozen? ⟨g, j, none⟩ = false) ∧ ∀ j, j < on.length → w.cell? ⟨g, j, none⟩ = some (.bool (onAt on j)) := by
  obtain ⟨g, cap, h1, h2, h3, h4⟩ := row_at h hn
  exact ⟨g, cap, h1, h2, h3, fun j hj => by rw [h4 j hj]; simp [vat, onAt, List.getD_eq_getElem?_getD, hj]⟩
theorem ownB_set {w : World} {base e g n cap : Nat} {on : List Bool} (h : OwnB w base e (.slice (some ⟨g, 0, none⟩) n cap) on) (hn : n = on.length) (j : Nat) (x : Bool) :
    OwnB (w.setCell ⟨g, j, none⟩ (.bool x)) base e (.slice (some ⟨g, 0, none⟩) n cap) (on.set j x) := by
  subst hn
  have := (h.stored j (.bool x)).1
  rw [OwnB, List.map_set, List.length_set]; exact this
theorem wpl_makeBools {P : Program} {t e : TypeId} (R : RowT P t e (.bool false) 1 1) {w : World} {ops : Array Oper} {rest : List Oper} {o : Oper} {a : Act} {Q : Exit → Act → World → Prop} (hgd : o.guard = none) (l c : Operand)
    (ho : o.op = Op.makeSlice t l c) {base : Nat} {L C : Int} (n : Nat) (hl : a.eval l = .int .i64 L) (hc : a.eval c = .int .i64 C) (hL : L = (n : Int)) (hC : C = (n : Int)) (hn : n ≤ 140737488351232) (hbase : base ≤ w.heap.size)
    (h : ∀ w1, OwnB w1 base e (.slice (some ⟨w.heap.size, 0, none⟩) n n) (List.replicate n false) → w.grownBy w1 none → wpList P ops Q rest (a.put o.dst (.slice (some ⟨w.heap.size, 0, none⟩) n n)) w1) :
    wpList P ops Q (o :: rest) a w := by
  obtain ⟨i, hi, hz0, hz1, hz2⟩ := info_parts R.inf
  refine wpList_make_full _ hgd l c t ho base e i (.bool false) 1 R.und hi hz0 hz1 .i64 .i64 L C n hl hc hL hC (by rw [hz2]; omega) (by unfold maxLen; omega) hbase fun w1 h1 h2 => h w1 ?_ h2
  have e1 : (List.replicate n false).map Value.bool = (madeCells (Value.bool false).cells (n * 1)).toList := by
    rw [Nat.mul_one]
    show _ = (madeCells #[.bool false] n).toList
    rw [toList_madeCells_one]; simp
  rw [OwnB, e1, List.length_replicate]; exact h1

theorem bool_ne {x y : Bool} (h : (x == y) = false) : x = !y := by cases x <;> cases y <;> simp_all

theorem cnt_two {on : List Bool} {i j : Nat} (hij : i ≠ j) (hi : onAt on i = true) (hj : onAt on j = true) : 2 ≤ cnt on := by
  have li : i < on.length := by
    apply Classical.byContradiction; intro h; rw [onAt_past on i (by omega)] at hi; simp at hi
  have lj : j < on.length := by
    apply Classical.byContradiction; intro h; rw [onAt_past on j (by omega)] at hj; simp at hj
  have h1 := cnt_set_false on i li hi
  have h2 := cnt_set_false (on.set i false) j (by simpa using lj) (by rw [onAt_set _ _ _ _ li, if_neg (fun h => hij h.symm)]; exact hj)
  omega
theorem cnt_zero {on : List Bool} (h : ∀ i, onAt on i = false) : cnt on = 0 := by
  rw [cnt, List.countP_eq_zero]
  intro x hx
  obtain ⟨i, hi, rfl⟩ := List.getElem_of_mem hx
  have := h i
  simp [onAt, hi] at this
  simpa using this
theorem complete_all {n : Nat} {on : List Bool} (hl : on.length = n + 1) (h0 : onAt on 0 = false) (h : ∀ j, 1 ≤ j → j < n → onAt on j = false) : complete n on = onAt on n := by
  have hx : ∀ i, i ≠ n → onAt on i = false := fun i hi => by
    by_cases e : i = 0
    · rw [e]; exact h0
    · by_cases e2 : i < n
      · exact h i (by omega) e2
      · exact onAt_past _ _ (by omega)
  cases hn : onAt on n with
  | false =>
    have : cnt on = 0 := cnt_zero fun i => by
      by_cases e : i = n
      · rw [e]; exact hn
      · exact hx i e
    simp [complete, this]
  | true =>
    have h1 := cnt_set_false on n (by omega) hn
    have h2 : cnt (on.set n false) = 0 := cnt_zero fun i => by
      rw [onAt_set _ _ _ _ (by omega)]
      split
      · rfl
      · exact hx i ‹_›
    have : cnt on = 1 := by omega
    simp [complete, this, hn]
theorem complete_not {n : Nat} {on : List Bool} {j : Nat} (hj : j < n) (h : onAt on j = true) : complete n on = false := by
  cases hn : onAt on n with
  | false => simp [complete, hn]
  | true =>
    have := cnt_two (by omega) h hn
    have e : ¬ cnt on = 1 := by omega
    simp [complete, e]
theorem legal_low {n : Int} (hn : n < 1) (l : List Int) : legalM n l = (0, false) := by
  cases l with
  | nil =>
    rw [legalM, lgGo, complete_on0]
  | cons m l =>
    have : lgOk n (on0 n) m = false := by
      cases h : lgOk n (on0 n) m with
      | false => rfl
      | true => have := lgOk_bd h; omega
    rw [legalM, lgGo, this]; rfl

set_option maxHeartbeats 6400000 in
theorem refLegal_any (n : Int) (v : Value) (l : List Int) (w : World) (hv : IntsAt w v l) (hs : Small l) (hn0 : -9223372036854775808 ≤ n) (hn1 : n ≤ 1000000) :
    Calls Try.prog 19 #[.int .i64 n, v] w fun e w' => e = .returned (.tuple #[.int .i64 ((legalM n l).1 : Nat), .bool (legalM n l).2]) ∧ Below w.heap.size w w' := by
  obtain ⟨hlen, hfit, a, cap, rfl, _, hcell⟩ := hv
  by_cases hlow : n < 1
  · have HL := Lib.hid (legal_low hlow l)
    go_enter Try.func19, Try.ntmps19
    go_wp2
    go_ret2
    exact ⟨by rw [HL.out]; rfl, Below.refl _ _⟩
  · obtain ⟨N, rfl⟩ : ∃ N : Nat, n = N := ⟨n.toNat, by omega⟩
    have hL : (N : Int) + 1 = ((N + 1 : Nat) : Int) := by omega
    have HL := Lib.hid hL
    clear hL
    go_enter Try.func19, Try.ntmps19
    go_wp2_with (at_make; refine wpl_makeBools TB rfl _ _ rfl (N + 1) rfl rfl HL.out HL.out (by omega) (Nat.le_refl _) ?_)
    intro w1 hown1 hg1
    have hb1 : Below w.heap.size w w1 := (Below.refl _ _).grown hg1 (Nat.le_refl _) (by simp)
    clear hg1
    go_wp2
    go_loopg [7] l.length (fun g si wr => ∃ (k : Nat) (on : List Bool), k ≤ l.length ∧ g = l.length - k ∧ si = .int .i64 k ∧ on.length = N + 1 ∧ onAt on 0 = false ∧ OwnB wr w.heap.size 4 (.slice (some ⟨w.heap.size, 0, none⟩) (N + 1) (N + 1)) on ∧ legalM N l = lgGo N on (l.drop k) k ∧ Below w.heap.size w wr)
    case atStart => exact ⟨0, on0 N, by omega, rfl, rfl, by simp [on0], by simp [onAt, on0], by simpa [on0] using hown1, rfl, hb1⟩
    case round =>
      obtain ⟨k, on, hk, rfl, rfl, hon, hz0, hown, hgo, hbl⟩ := hrel
      have HON := Lib.hid hon
      have HZ0 := Lib.hid hz0
      obtain ⟨g, cp, he, hgl, hfz, hcl⟩ := hown.at (by omega)
      obtain ⟨rfl, rfl⟩ : w.heap.size = g ∧ N + 1 = cp := by simp at he; exact ⟨he.1, he.2.2⟩
      have HCL := Lib.hid hcl
      have HFZ := Lib.hid hfz
      clear hon hz0 hown1 he hcl hfz
      by_cases hlt : k < l.length
      · obtain ⟨b, off, rfl, hb, hc⟩ := hcell (by omega)
        have hx : wr.cell? ⟨b, off + k, none⟩ = some (.int .i64 (nth l k)) := (hbl.cell (by exact hb)).trans (hc k hlt)
        have hsm := hs _ (nth_mem hlt)
        rw [drop_nth l k hlt, lgGo] at hgo
        have HGO := Lib.hid hgo
        clear hc hcell hgo
        generalize nth l k = m at *
        obtain ⟨c, hc⟩ : ∃ c : Nat, c = m.natAbs := ⟨_, rfl⟩
        have hok : lgOk N on m = (decide (1 ≤ c) && decide ((c : Int) ≤ N) && (decide (c = 1) || onAt on (c - 1)) && (onAt on c != decide (0 < m))) := by rw [lgOk, ← hc]
        have hst : lgStep on m = on.set c (decide (0 < m)) := by rw [lgStep, ← hc]
        have HOK := Lib.hid hok
        have HST := Lib.hid hst
        clear hok hst
        by_cases hc0 : c = 0
        · obtain rfl : m = 0 := by omega
          clear hc
          have HF : Hid (lgOk N on 0 = false) := by show _ = _; rw [HOK.out, hc0]; rfl
          clear hc0
          go_wp2
          go_ret2
          exact ⟨by rw [HGO.out, HF.out]; rfl, hbl⟩
        · by_cases hcn : (c : Int) ≤ N
          · have hcl1 := HCL.out c (by rw [HON.out]; omega)
            have hcl2 := HCL.out (c - 1) (by rw [HON.out]; omega)
            have hfz1 := HFZ.out c
            have e1 : decide (1 ≤ c) = true := by simp; omega
            have e2 : decide ((c : Int) ≤ (N : Int)) = true := by simpa using hcn
            have HOK2 : Hid (lgOk N on m = ((decide (c = 1) || onAt on (c - 1)) && (onAt on c != decide (0 < m)))) := by show _ = _; rw [HOK.out, e1, e2]; rfl
            clear HOK e1 e2
            have q1 : decide ((c : Int) < 1) = false := by simp; omega
            have q2 : decide ((N : Int) < (c : Int)) = false := by simp; omega
            have q2' : decide (N < c) = false := by simp; omega
            have hz2 : onAt (on.set c (decide (0 < m))) 0 = false := by
              have hcl : c < on.length := by rw [HON.out]; omega
              rw [onAt_set _ _ _ _ hcl, if_neg (by omega)]; exact HZ0.out
            have HZ2 := Lib.hid hz2
            clear hz2
            have hset := ownB_set hown HON.out.symm c (decide (0 < m))
            have hbs := hbl.setCell (p := ⟨w.heap.size, c, none⟩) (Nat.le_refl _) (.bool (decide (0 < m)))
            have hsgn : m ≠ 0 := by omega
            clear hown
            cases hb2 : onAt on c == decide (0 < m) with
            | true =>
              have HF : Hid (lgOk N on m = false) := by show _ = _; rw [HOK2.out, bne, hb2]; simp
              have hb3 : onAt on c = decide (0 < m) := by simpa using hb2
              rw [hb3] at hcl1
              clear hb2 hb3 hcl2 HOK2 hset hbs
              rcases Int.lt_or_gt_of_ne hsgn with hneg | hpos
              · obtain rfl : m = -(c : Int) := by omega
                have z1 : decide (0 < -(c : Int)) = false := by simp
                rw [z1] at hcl1
                clear hc
                go_wp2
                go_ret2
                exact ⟨by rw [HGO.out, HF.out]; rfl, hbl⟩
              · obtain rfl : m = (c : Int) := by omega
                have z1 : decide (0 < (c : Int)) = true := by simp; omega
                have z2 : decide (0 < c) = true := by simp; omega
                rw [z1] at hcl1
                clear hc
                go_wp2
                go_ret2
                exact ⟨by rw [HGO.out, HF.out]; rfl, hbl⟩
            | false =>
              have hb3 : onAt on c = !decide (0 < m) := bool_ne hb2
              have HOK3 : Hid (lgOk N on m = (decide (c = 1) || onAt on (c - 1))) := by show _ = _; rw [HOK2.out, bne, hb2]; simp
              rw [hb3] at hcl1
              clear hb2 hb3 HOK2
              cases hb1 : (decide (c = 1) || onAt on (c - 1)) with
              | false =>
                rw [hb1] at HOK3
                simp only [Bool.or_eq_false_iff, decide_eq_false_iff_not] at hb1
                rw [hb1.2] at hcl2
                have hc1 : 1 < c := by omega
                have q3 : decide (1 < (c : Int)) = true := by simp; omega
                have hcl2' : wr.cell? ⟨w.heap.size, c - 1, none⟩ = some (.bool false) := hcl2
                clear hb1 hset hbs
                rcases Int.lt_or_gt_of_ne hsgn with hneg | hpos
                · obtain rfl : m = -(c : Int) := by omega
                  have z1 : decide (0 < -(c : Int)) = false := by simp
                  rw [z1] at hcl1
                  clear hc
                  go_wp2
                  go_ret2
                  exact ⟨by rw [HGO.out, HOK3.out]; rfl, hbl⟩
                · obtain rfl : m = (c : Int) := by omega
                  have z1 : decide (0 < (c : Int)) = true := by simp; omega
                  have z2 : decide (0 < c) = true := by simp; omega
                  rw [z1] at hcl1
                  clear hc
                  go_wp2
                  go_ret2
                  exact ⟨by rw [HGO.out, HOK3.out]; rfl, hbl⟩
              | true =>
                rw [hb1] at HOK3
                by_cases hc1 : c = 1
                · have q3 : decide (1 < (c : Int)) = false := by simp; omega
                  have HC1 := Lib.hid hc1
                  clear hc1 hcl2 hb1
                  rcases Int.lt_or_gt_of_ne hsgn with hneg | hpos
                  · obtain rfl : m = -(c : Int) := by omega
                    have z1 : decide (0 < -(c : Int)) = false := by simp
                    rw [z1] at hcl1 hset hbs HST HZ2
                    clear hc
                    go_wp2
                    go_roundg (l.length - (k + 1))
                    case measure => omega
                    case rel => exact ⟨k + 1, on.set c false, by omega, rfl, by go_num, by simp [HON.out], HZ2.out, hset, by rw [HGO.out, HOK3.out, HST.out]; rfl, hbs⟩
                  · obtain rfl : m = (c : Int) := by omega
                    have z1 : decide (0 < (c : Int)) = true := by simp; omega
                    have z2 : decide (0 < c) = true := by simp; omega
                    rw [z1] at hcl1 hset hbs HST HZ2
                    clear hc
                    go_wp2
                    go_roundg (l.length - (k + 1))
                    case measure => omega
                    case rel => exact ⟨k + 1, on.set c true, by omega, rfl, by go_num, by simp [HON.out], HZ2.out, hset, by rw [HGO.out, HOK3.out, HST.out]; rfl, hbs⟩
                · have q3 : decide (1 < (c : Int)) = true := by simp; omega
                  have hb4 : onAt on (c - 1) = true := by simpa [hc1] using hb1
                  rw [hb4] at hcl2
                  clear hb1 hb4
                  rcases Int.lt_or_gt_of_ne hsgn with hneg | hpos
                  · obtain rfl : m = -(c : Int) := by omega
                    have z1 : decide (0 < -(c : Int)) = false := by simp
                    rw [z1] at hcl1 hset hbs HST HZ2
                    clear hc
                    go_wp2
                    go_roundg (l.length - (k + 1))
                    case measure => omega
                    case rel => exact ⟨k + 1, on.set c false, by omega, rfl, by go_num, by simp [HON.out], HZ2.out, hset, by rw [HGO.out, HOK3.out, HST.out]; rfl, hbs⟩
                  · obtain rfl : m = (c : Int) := by omega
                    have z1 : decide (0 < (c : Int)) = true := by simp; omega
                    have z2 : decide (0 < c) = true := by simp; omega
                    rw [z1] at hcl1 hset hbs HST HZ2
                    clear hc
                    go_wp2
                    go_roundg (l.length - (k + 1))
                    case measure => omega
                    case rel => exact ⟨k + 1, on.set c true, by omega, rfl, by go_num, by simp [HON.out], HZ2.out, hset, by rw [HGO.out, HOK3.out, HST.out]; rfl, hbs⟩
          · have HF : Hid (lgOk N on m = false) := by
              show _ = _
              rw [HOK.out, decide_eq_false hcn]; simp
            have q1 : decide ((c : Int) < 1) = false := by simp; omega
            have q2 : decide ((N : Int) < (c : Int)) = true := by simp; omega
            have q2' : decide (N < c) = true := by simp; omega
            clear hown
            rcases Int.lt_or_gt_of_ne (show m ≠ 0 by omega) with hneg | hpos
            · obtain rfl : m = -(c : Int) := by omega
              clear hc
              go_wp2
              go_ret2
              exact ⟨by rw [HGO.out, HF.out]; rfl, hbl⟩
            · obtain rfl : m = (c : Int) := by omega
              have z1 : decide (0 < (c : Int)) = true := by simp; omega
              have z2 : decide (0 < c) = true := by simp; omega
              clear hc
              go_wp2
              go_ret2
              exact ⟨by rw [HGO.out, HF.out]; rfl, hbl⟩
      · have hdr : l.drop k = [] := List.drop_eq_nil_of_le (by omega)
        rw [hdr, lgGo] at hgo
        obtain rfl : k = l.length := by omega
        have HGO := Lib.hid hgo
        clear hdr hgo hown hcell
        go_wp2
        go_loopg [10] (N - 1) (fun g si wx => wr = wx ∧ ∃ i : Nat, 1 ≤ i ∧ i ≤ N ∧ g = N - i ∧ si = .int .i64 i ∧ ∀ j, 1 ≤ j → j < i → onAt on j = false)
        case atStart => exact ⟨rfl, 1, by omega, by omega, rfl, rfl, fun j h1 h2 => by omega⟩
        case round =>
          obtain ⟨rfl, i, hi1, hiN, rfl, rfl, hall⟩ := hrel
          have HALL := Lib.hid hall
          clear hall
          have hcx := HCL.out i (by rw [HON.out]; omega)
          by_cases hin : i < N
          · cases hoi : onAt on i with
            | true =>
              rw [hoi] at hcx
              have HF := Lib.hid (complete_not hin hoi)
              clear hoi
              go_wp2
              go_ret2
              exact ⟨by rw [HGO.out, HF.out]; rfl, hbl⟩
            | false =>
              rw [hoi] at hcx
              have HOI := Lib.hid hoi
              clear hoi
              go_wp2
              go_roundg (N - (i + 1))
              case measure => omega
              case rel => exact ⟨rfl, i + 1, by omega, by omega, rfl, by go_num, fun j h1 h2 => by
                by_cases e : j = i
                · rw [e]; exact HOI.out
                · exact HALL.out j h1 (by omega)⟩
          · obtain rfl : i = N := by omega
            have HF := Lib.hid (complete_all HON.out HZ0.out HALL.out)
            have hii : (i : Int) < (i : Int) + 1 := by omega
            go_wp2
            go_quiet (fail)
            go_wp2
            go_ret2
            exact ⟨by rw [HGO.out, HF.out]; rfl, below_drewN hbl _⟩
end Go.Proofs.Ytpeiajmgkhajoaa
