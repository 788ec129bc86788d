/- tape.New, receivers that are nil, and the helpers of the laws. -/
import Derived.Test.YtpeiajmgkhajoabTapeC
import Derived.Test.YtpeiajmgkhajoabOpen
namespace Go.Proofs.Ytpeiajmgkhajoab
set_option linter.unusedVariables false
open Go.RowKit

theorem eq_of_cells (l m : List Int) (hl : l.length = m.length) (h : ∀ j, j < l.length → nth l j = nth m j) : l = m := by
  apply List.ext_getElem hl
  intro i h1 h2
  have := h i h1
  simpa [nth, List.getElem?_eq_getElem h1, List.getElem?_eq_getElem h2] using this

set_option maxHeartbeats 800000 in
theorem ints_any (v u : Value) (l m : List Int) (w : World) (hv : IntsAt w v l) (hu : IntsAt w u m) :
    Calls Try.prog 24 #[v, u] w fun e w' => e = .returned (.bool (decide (l = m))) ∧ Below w.heap.size w w' := by
  obtain ⟨hlen, hfit, a, cap, rfl, _, hcell⟩ := hv
  obtain ⟨hlen', hfit', a', cap', rfl, _, hcell'⟩ := hu
  by_cases hne : l.length = m.length
  · have hq : ((l.length : Int) != (m.length : Int)) = false := by simp [hne]
    have HN := Lib.hid hne
    clear hne
    go_enter Try.func24, Try.ntmps24
    go_wp2
    go_loopw [5] (fun i wr => ∃ k : Nat, k ≤ l.length ∧ i = .int .i64 k ∧ (∀ j, j < k → nth l j = nth m j) ∧ Below w.heap.size w wr) (fun i _ => l.length - (intOf i).toNat)
    case atStart => exact ⟨0, Nat.zero_le _, rfl, fun j hj => absurd hj (by omega), Below.refl _ _⟩
    case round =>
      obtain ⟨k, hk, rfl, hsame, hbl⟩ := hrel
      have HS := Lib.hid hsame
      clear hsame
      by_cases hlt : k < l.length
      · have hlt' : k < m.length := by have := HN.out; omega
        obtain ⟨b, off, rfl, hb, hc⟩ := hcell (by omega)
        obtain ⟨b', off', rfl, hb', hc'⟩ := hcell' (by omega)
        have hx : wr.cell? ⟨b, off + k, none⟩ = some (.int .i64 (nth l k)) := (hbl.cell (by exact hb)).trans (hc k hlt)
        have hx' : wr.cell? ⟨b', off' + k, none⟩ = some (.int .i64 (nth m k)) := (hbl.cell (by exact hb')).trans (hc' k hlt')
        clear hc hc' hcell hcell'
        by_cases heq : nth l k = nth m k
        · have he : (nth l k != nth m k) = false := by simp [heq]
          have HE := Lib.hid heq
          clear heq
          go_wp2
          go_quiet (fail)
          go_wp2
          go_roundw
          case rel => exact ⟨k + 1, by omega, by go_num, fun j hj => (by
            by_cases e : j = k
            · rw [e]; exact HE.out
            · exact HS.out j (by omega)), below_drewN hbl _⟩
          case measure => simp [intOf]; omega
        · have he : (nth l k != nth m k) = true := by simp [heq]
          go_wp2
          go_quiet (fail)
          go_wp2
          go_ret
          have hd : decide (l = m) = false := decide_eq_false (fun h => heq (by rw [h]))
          exact ⟨by rw [hd]; rfl, below_drewN hbl _⟩
      · go_wp2
        go_ret
        have hd : decide (l = m) = true := decide_eq_true (eq_of_cells l m HN.out (fun j hj => HS.out j (by omega)))
        exact ⟨by rw [hd]; rfl, hbl⟩
  · have hq : ((l.length : Int) != (m.length : Int)) = true := by simp; omega
    go_enter Try.func24, Try.ntmps24
    go_wp2
    go_ret
    have hd : decide (l = m) = false := decide_eq_false (fun h => hne (by rw [h]))
    exact ⟨by rw [hd]; rfl, Below.refl _ _⟩

/-- New refuses -/
theorem new_full (v u : Value) (i o : List Int) (w : World) (hv : IntsAt w v i) (hu : IntsAt w u o) (h : 4096 < i.length ∨ 4096 < o.length) :
    Calls Try.prog 13 #[v, u] w fun e w' => e = .returned (.tuple #[.pointer none, .int .i64 5]) ∧ w = w' := by
  obtain ⟨a, cap, rfl⟩ := hv.form
  obtain ⟨a', cap', rfl⟩ := hu.form
  by_cases h1 : 4096 < i.length
  · have d1 : decide (4096 < (i.length : Int)) = true := by simp; omega
    go_enter Try.func13, Try.ntmps13
    go_wp2
    go_ret2
    exact ⟨rfl, rfl⟩
  · have h2 : 4096 < o.length := by omega
    have d1 : decide (4096 < (i.length : Int)) = false := by simp; omega
    have d2 : decide (4096 < (o.length : Int)) = true := by simp; omega
    go_enter Try.func13, Try.ntmps13
    go_wp2
    go_ret2
    exact ⟨rfl, rfl⟩

/-- a new tape lies above all that was there -/
theorem new_any (v u : Value) (i o : List Int) (w : World) (hv : IntsAt w v i) (hu : IntsAt w u o) (h1 : i.length ≤ 4096) (h2 : o.length ≤ 4096) :
    Calls Try.prog 13 #[v, u] w fun e w' => ∃ b S, e = .returned (.tuple #[.pointer (some ⟨b, 0, none⟩), .int .i64 0]) ∧ TapeAt w' w.heap.size b 48 i o S ∧ Below w.heap.size w w' := by
  have hv' := hv
  have hu' := hu
  obtain ⟨a, cap, rfl⟩ := hv.form
  obtain ⟨a', cap', rfl⟩ := hu.form
  have d1 : decide (4096 < (i.length : Int)) = false := by simp; omega
  have d2 : decide (4096 < (o.length : Int)) = false := by simp; omega
  go_enter Try.func13, Try.ntmps13
  go_wp2_with fail
  refine (clone_any _ i w hv').mono ?_
  rintro e w1 ⟨v1, rfl, ho1, hb1⟩
  obtain ⟨a1, cap1, rfl⟩ := ho1.form
  have hu1 := hu'.below hb1
  clear hv hu hv' hu'
  go_wp2_with fail
  refine (clone_any _ o w1 hu1).mono ?_
  rintro e w2 ⟨v2, rfl, ho2, hb2⟩
  obtain ⟨a2, cap2, rfl⟩ := ho2.form
  clear hu1
  have hz1 := hb1.size
  have hz2 := hb2.size
  have hA : Below w2.heap.size w2 (w2.alloc (.cells #[.slice a1 i.length cap1, .slice a2 o.length cap2] 48)) := (Below.refl _ _).alloc (Nat.le_refl _) _
  have k1 := (ho1.below hb2).below hA
  have k2 := (ho2.below hA).mono hz1
  have hsep : Sep (.slice a1 i.length cap1) (.slice a2 o.length cap2) := (sep_young ho2 ho1.lies).symm
  have hbig : Below w.heap.size w (w2.alloc (.cells #[.slice a1 i.length cap1, .slice a2 o.length cap2] 48)) := (hb1.trans (hb2.mono hz1)).trans (hA.mono (by omega))
  clear ho1 ho2 hb1 hb2
  go_wp2
  go_ret2
  refine ⟨w2.heap.size, _, rfl, ⟨_, _, by decide, by omega, by simp; omega, ?_, k1, k2, hsep, fun k => Iff.rfl⟩, hbig⟩
  show (w2.heap.push _)[w2.heap.size]? = _
  simp

theorem read_nil (w : World) : Calls Try.prog 20 #[.pointer none] w fun e w' => e = .returned (.tuple #[.int .i64 0, .int .i64 1]) ∧ w = w' := by
  go_enter Try.func20, Try.ntmps20
  go_wp2
  go_ret2
  exact ⟨rfl, rfl⟩
theorem unwrite_nil (w : World) : Calls Try.prog 22 #[.pointer none] w fun e w' => e = .returned (.tuple #[.int .i64 0, .int .i64 1]) ∧ w = w' := by
  go_enter Try.func22, Try.ntmps22
  go_wp2
  go_ret2
  exact ⟨rfl, rfl⟩
theorem write_nil (w : World) (x : Int) : Calls Try.prog 21 #[.pointer none, .int .i64 x] w fun e w' => e = .returned (.int .i64 1) ∧ w = w' := by
  go_enter Try.func21, Try.ntmps21
  go_wp2
  go_ret
  exact ⟨rfl, rfl⟩
theorem unread_nil (w : World) (x : Int) : Calls Try.prog 23 #[.pointer none, .int .i64 x] w fun e w' => e = .returned (.int .i64 1) ∧ w = w' := by
  go_enter Try.func23, Try.ntmps23
  go_wp2
  go_ret
  exact ⟨rfl, rfl⟩
theorem in_nil (w : World) : Calls Try.prog 14 #[.pointer none] w fun e w' => e = .returned (.slice none 0 0) ∧ w = w' := by
  go_enter Try.func14, Try.ntmps14
  go_wp2
  go_ret
  exact ⟨rfl, rfl⟩
theorem out_nil (w : World) : Calls Try.prog 19 #[.pointer none] w fun e w' => e = .returned (.slice none 0 0) ∧ w = w' := by
  go_enter Try.func19, Try.ntmps19
  go_wp2
  go_ret
  exact ⟨rfl, rfl⟩

/-- the tape's rows are these -/
theorem same_any (w : World) (base b : Nat) (i o i' o' : List Int) (S : Nat → Prop) (v u : Value) (h : TapeAt w base b 48 i o S) (hv : IntsAt w v i') (hu : IntsAt w u o') :
    Calls Try.prog 15 #[.pointer (some ⟨b, 0, none⟩), v, u] w fun e w' => e = .returned (.bool (decide (i = i') && decide (o = o'))) ∧ Below w.heap.size w w' := by
  by_cases h1 : i = i'
  · have d1 : decide (i = i') = true := decide_eq_true h1
    have D1 := Lib.hid d1
    clear d1 h1
    go_enter Try.func15, Try.ntmps15
    go_wp2_with fail
    refine (in_any w base b i o S h).mono ?_
    rintro e w1 ⟨v1, rfl, k1, hb1⟩
    have hv1 := hv.below hb1
    have hu1 := hu.below hb1
    have ht1 := h.keeps (Keeps.of_below (fun _ => False) hb1) (fun _ _ e => e)
    clear hv hu h
    go_wp2_with fail
    refine (ints_any v1 v i i' w1 k1.ints hv1).mono ?_
    rintro e w2 ⟨rfl, hb2⟩
    rw [D1.out]
    have hu2 := hu1.below hb2
    have ht2 := ht1.keeps (Keeps.of_below (fun _ => False) hb2) (fun _ _ e => e)
    clear hv1 hu1 ht1
    go_wp2_with fail
    refine (out_any w2 base b i o S ht2).mono ?_
    rintro e w3 ⟨v3, rfl, k3, hb3⟩
    have hu3 := hu2.below hb3
    clear hu2 ht2
    go_wp2_with fail
    refine (ints_any v3 u o o' w3 k3.ints hu3).mono ?_
    rintro e w4 ⟨rfl, hb4⟩
    have hz1 := hb1.size
    have hz2 := hb2.size
    have hz3 := hb3.size
    go_wp2
    go_ret
    exact ⟨by rw [D1.out]; simp, ((hb1.trans (hb2.mono hz1)).trans (hb3.mono (by omega))).trans (hb4.mono (by omega))⟩
  · have d1 : decide (i = i') = false := decide_eq_false h1
    have D1 := Lib.hid d1
    clear d1 h1
    go_enter Try.func15, Try.ntmps15
    go_wp2_with fail
    refine (in_any w base b i o S h).mono ?_
    rintro e w1 ⟨v1, rfl, k1, hb1⟩
    have hv1 := hv.below hb1
    clear hv hu h
    go_wp2_with fail
    refine (ints_any v1 v i i' w1 k1.ints hv1).mono ?_
    rintro e w2 ⟨rfl, hb2⟩
    rw [D1.out]
    have hz1 := hb1.size
    go_wp2
    go_ret
    exact ⟨by rw [D1.out]; simp, hb1.trans (hb2.mono hz1)⟩
end Go.Proofs.Ytpeiajmgkhajoab
