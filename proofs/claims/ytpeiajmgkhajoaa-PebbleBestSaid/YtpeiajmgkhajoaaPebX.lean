/- Walk of the reference's Best. -/
import Derived.Test.YtpeiajmgkhajoaaPebK
import Derived.Test.YtpeiajmgkhajoaaPebW
namespace Go.Proofs.Ytpeiajmgkhajoaa
set_option linter.unusedVariables false
open Go.RowKit

set_option maxHeartbeats 1600000 in
theorem refBest_bad (n p : Int) (w : World) (h : n < 1 ∨ 12 < n ∨ p < 1) :
    Calls Try.prog 16 #[.int .i64 n, .int .i64 p] w fun e w' => e = .returned (.tuple #[.slice none 0 0, .bool false]) ∧ w = w' := by
  by_cases h1 : n < 1
  · have d1 : decide (n < 1) = true := by simpa using h1
    go_enter Try.func16, Try.ntmps16
    go_wp2
    go_ret2
    exact ⟨rfl, rfl⟩
  have d1 : decide (n < 1) = false := by simpa using h1
  by_cases h2 : 12 < n
  · have d2 : decide (12 < n) = true := by simpa using h2
    go_enter Try.func16, Try.ntmps16
    go_wp2
    go_ret2
    exact ⟨rfl, rfl⟩
  have d2 : decide (12 < n) = false := by simpa using h2
  have d3 : decide (p < 1) = true := by simp; omega
  go_enter Try.func16, Try.ntmps16
  go_wp2
  go_ret2
  exact ⟨rfl, rfl⟩

theorem qs_fits {n N : Nat} {q : List Nat} (hN : N ≤ 256) (h : ∀ c ∈ q, c < N) : Fits (qs q) := fun x hx => by
  simp only [qs, List.mem_map] at hx
  obtain ⟨d, hd, rfl⟩ := hx
  have := h d hd; omega
theorem qs_nth (q : List Nat) (k : Nat) (h : k < q.length) : nth (qs q) k = (q[k] : Nat) := by simp [nth, qs, h]
theorem qs_len (q : List Nat) : (qs q).length = q.length := by simp [qs]
theorem qs_snoc (q : List Nat) (d : Nat) : qs (q ++ [d]) = qs q ++ [(d : Int)] := by simp [qs]

theorem inTo_shape (n : Nat) (p : Int) (c : Nat) (s : List Int × List Nat) (k : Nat) : (inTo n p c s k).1.length = s.1.length := by
  induction k with
  | zero => rfl
  | succ k ih => rw [inTo_succ, inStep]; split <;> simp [ih]

set_option maxRecDepth 1000000 in
set_option maxHeartbeats 12800000 in
theorem refBest_any (n : Nat) (p : Int) (w : World) (hn1 : 1 ≤ n) (hn8 : n ≤ 8) (hp : 1 ≤ p) (hp2 : p ≤ 9223372036854775807) (hgood : Good n p) (hzz : zeros n (farOf n p) = true) :
    Calls Try.prog 16 #[.int .i64 n, .int .i64 p] w fun e w' => ∃ v, e = .returned (.tuple #[v, .bool (bestOk n p)]) ∧ Own w' w.heap.size 3 v (bestL n p) ∧ Below w.heap.size w w' := by
  obtain ⟨N, hN⟩ : ∃ N : Nat, N = 2 ^ n := ⟨_, rfl⟩
  have hN8 : N ≤ 256 := by rw [hN]; exact Nat.pow_le_pow_right (n := 2) (by decide) hn8
  obtain ⟨G, hG⟩ : ∃ G : Nat, G = 2 ^ (n - 1) := ⟨_, rfl⟩
  have hGN : G < N := by rw [hN, hG]; exact Nat.pow_lt_pow_right (by decide) (by omega)
  have hw : wrap64 ((2 : Int) ^ n) = (N : Int) := by
    have e : ((2 : Int) ^ n) = ((2 ^ n : Nat) : Int) := by simp
    rw [e, ← hN]; exact IntWalk.wrap64_in _ (by omega)
  have hw2 : wrap64 ((2 : Int) ^ (n - 1)) = (G : Int) := by
    have e : ((2 : Int) ^ (n - 1)) = ((2 ^ (n - 1) : Nat) : Int) := by simp
    rw [e, ← hG]; exact IntWalk.wrap64_in _ (by omega)
  have hlenF : (farOf n p).length = N := by rw [hN]; exact (bfs_inv hn1 p (2 ^ n)).1
  have H2 := Lib.hid hgood.2
  have HD := Lib.hid hgood.1
  have HN := Lib.hid hN
  have HG := Lib.hid hG
  have HL : Hid (bestL n p = if nth (farOf n p) 0 < 0 then [] else (gr n (farOf n p) 100).1) := rfl
  have HO : Hid (bestOk n p = decide (0 ≤ nth (farOf n p) 0)) := rfl
  have HFO : Hid (farOf n p = (bfs n p (2 ^ n)).1) := rfl
  have HZZ := Lib.hid hzz
  have HLN := Lib.hid hlenF
  -- while the queue is not empty, fewer than N steps are done
  have HT : Hid (∀ t, (bfs n p t).2 ≠ [] → t < N) := fun t ht => by
    apply Classical.byContradiction
    intro h
    have := bfs_stays (n := n) (p := p) (t := 2 ^ n) (u := t) hgood.1 (by rw [← hN]; omega)
    rw [this] at ht
    exact ht hgood.1
  clear hN hG hgood hlenF hzz
  have d1 : decide ((n : Int) < 1) = false := by simp; omega
  have d2 : decide (12 < (n : Int)) = false := by simp; omega
  have d3 : decide (p < 1) = false := by simp; omega
  go_enter Try.func16, Try.ntmps16
  go_wp2_with (at_make; refine wpl_makeInts TI rfl _ _ rfl N rfl rfl hw hw (by omega) (Nat.le_refl _) ?_)
  intro w1 own1 hg1
  have hb1 : Below w.heap.size w w1 := (Below.refl _ _).grown hg1 (Nat.le_refl _) (by simp)
  rw [show List.replicate N 0 = fillTo N 0 by simp [fillTo]] at own1
  clear hg1
  go_wp2
  go_loopg [7] N (fun k si wr => ∃ i : Nat, i ≤ N ∧ k = N - i ∧ si = .int .i64 i ∧ Own wr w.heap.size 3 (.slice (some ⟨w.heap.size, 0, none⟩) N N) (fillTo N i) ∧ Below w.heap.size w wr)
  case atStart => exact ⟨0, by omega, rfl, rfl, own1, hb1⟩
  case round =>
    obtain ⟨i, hiN, rfl, rfl, hown, hbl⟩ := hrel
    by_cases hlt : i < N
    · obtain ⟨g, cap, he, hgl, hfz, hcl⟩ := hown.at (by rw [fillTo_len N i hiN]; omega)
      have hcell := hcl i (by rw [fillTo_len N i hiN]; omega)
      have hfr := hfz i
      obtain ⟨rfl, rfl⟩ : w.heap.size = g ∧ N = cap := by simp at he; exact ⟨he.1, he.2.2⟩
      have hset := own_set hown i (-1) (by omega)
      rw [← fillTo_succ N i hlt] at hset
      have hbl2 : Below w.heap.size w (wr.setCell ⟨w.heap.size, i, none⟩ (.int .i64 (-1))) := hbl.setCell (Nat.le_refl _) _
      clear he hcl hfz own1 hb1 hown
      go_wp2
      go_roundg (N - (i + 1))
      case measure => omega
      case rel => exact ⟨i + 1, by omega, rfl, by go_num, hset.1, hbl2⟩
    · obtain rfl : N = i := by omega
      rw [fillTo_all] at hown
      obtain ⟨g, cap, he, hgl, hfz, hcl⟩ := hown.at (by simp; omega)
      have hcell := hcl G (by simp; omega)
      have hfr := hfz G
      obtain ⟨rfl, rfl⟩ : w.heap.size = g ∧ N = cap := by simp at he; exact ⟨he.1, he.2⟩
      have hset := own_set hown G 0 (by omega)
      have hbl2 : Below w.heap.size w (wr.setCell ⟨w.heap.size, G, none⟩ (.int .i64 0)) := hbl.setCell (Nat.le_refl _) _
      have hsz0 := hbl.size
      clear he hcl hfz own1 hb1 hown
      go_wp2
      have hwz := Lib.hid (show (wr.setCell ⟨w.heap.size, G, none⟩ (.int .i64 0)).heap.size = wr.heap.size by simp [World.setCell])
      generalize wr.setCell ⟨w.heap.size, G, none⟩ (.int .i64 0) = w2 at *
      simp only [hw2]
      clear hw2 hw
      go_loopg [9] N (fun k fv wx => ∃ t : Nat, t ≤ N ∧ k = N - t ∧ Own wx w.heap.size 3 (.slice (some ⟨w.heap.size, 0, none⟩) N N) (bfs n p t).1 ∧ Own wx w.heap.size 3 fv (qs (bfs n p t).2) ∧ Sep fv (.slice (some ⟨w.heap.size, 0, none⟩) N N) ∧ Below w.heap.size w wx)
      case atStart =>
        have hb2 : Below w2.heap.size w2 (w2.alloc (.cells #[.int .i64 (G : Int)] 3)) := (Below.refl _ _).alloc (Nat.le_refl _) _
        have hs2 : w.heap.size + 1 ≤ w2.heap.size := by have := hset.1.lies w.heap.size rfl; omega
        refine ⟨0, by omega, rfl, ?_, ?_, ?_, hbl2.alloc (by omega) _⟩
        · have e : (bfs n p 0).1 = (List.replicate N (-1)).set G 0 := by rw [bfs, ← HN.out, ← HG.out]
          rw [e]; exact hset.1.below hb2
        · have e : qs (bfs n p 0).2 = [(G : Int)] := by simp only [bfs, qs, List.map_cons, List.map_nil, ← HG.out]
          rw [e, ← hwz.out]
          exact own_lit w2 w.heap.size 3 [(G : Int)] (by simp) (fun x hx => by simp at hx; omega) (by omega)
        · intro k h1 h2
          simp only [Value.ownBlock, Option.some.injEq] at h1 h2
          omega
      case round =>
        obtain ⟨t, htN, rfl, hown, hq, hsep, hblx⟩ := hrel
        have hinv := bfs_inv hn1 p t
        have hlen := bfs_len n p t
        have hnot := HT.out t
        generalize hst : bfs n p t = st at *
        obtain ⟨far, q⟩ := st
        simp only at hown hq hinv hlen hnot
        have HST := Lib.hid hst
        clear hst hset hbl2 hwz hgl hcell hfr hsz0 hbl
        have hszx := hblx.size
        by_cases hq0 : q = []
        · subst hq0
          obtain ⟨a9, c9, rfl⟩ := hq.form
          have hfin : bfs n p (2 ^ n) = (far, []) := by
            have h0 : (bfs n p t).2 = [] := by rw [HST.out]
            rw [bfs_stays h0 (by rw [← HN.out]; exact htN), HST.out]
          have hfo : farOf n p = far := by rw [HFO.out, hfin]
          rw [hfo] at HL HO H2 HZZ HLN
          have HZL : Hid ((qs ([] : List Nat)).length = 0) := rfl
          clear hfin hfo HST HT HD HFO hnot hinv hlen hq hsep
          simp only [HZL.out]
          obtain ⟨L, hL⟩ : ∃ L : Nat, L = 100 := ⟨_, rfl⟩
          rw [← hL] at H2 HL
          have hL1 : L ≤ 100 := by omega
          clear hL
          obtain ⟨g', cap', he, hgl, hfz, hcl⟩ := hown.at (by rw [HLN.out]; omega)
          have hc0 := hcl 0 (by rw [HLN.out]; omega)
          obtain ⟨rfl, rfl⟩ : w.heap.size = g' ∧ N = cap' := by simp at he; exact ⟨he.1, he.2.2⟩
          clear he hgl hfz hcl
          by_cases hneg : nth far 0 < 0
          · have HO1 : Hid (bestOk n p = false) := by show _ = _; rw [HO.out]; simpa using hneg
            have HL1 : Hid (bestL n p = []) := by show _ = _; rw [HL.out, if_pos hneg]
            go_wp2
            go_ret2
            exact ⟨_, by rw [HO1.out]; rfl, by rw [HL1.out]; exact Own.nil _ _ _, hblx⟩
          · have HO1 : Hid (bestOk n p = true) := by show _ = _; rw [HO.out]; simpa using hneg
            have HL1 : Hid (bestL n p = (gr n far L).1) := by show _ = _; rw [HL.out, if_neg hneg]
            have HKN := Lib.hid (fun t => gr_known hn1 HZZ.out (by omega) t)
            obtain ⟨hg1, hg2⟩ := H2.out (by omega)
            have HG1 := Lib.hid hg1
            have HG2 := Lib.hid hg2
            clear hg1 hg2
            go_wp2
            clear hc0
            go_loopg [14, 15] L (fun k mv sc wx => ∃ t : Nat, t ≤ L ∧ k = L - t ∧ sc = .int .i64 ((gr n far t).2 : Nat) ∧ Own wx w.heap.size 3 mv (gr n far t).1 ∧ Sep mv (.slice (some ⟨w.heap.size, 0, none⟩) N N) ∧ Own wx w.heap.size 3 (.slice (some ⟨w.heap.size, 0, none⟩) N N) far ∧ Below w.heap.size w wx)
            case atStart => exact ⟨0, by omega, rfl, rfl, Own.nil _ _ _, fun k h => by simp [Value.ownBlock] at h, hown, hblx⟩
            case round =>
              clear hown hblx hszx
              obtain ⟨t, ht, rfl, rfl, hown, hsep, hfx, hblx⟩ := hrel
              have hct := gr_lt hn1 far t
              have hkn := HKN.out t
              rw [← HN.out] at hct
              have hlent := gr_len n far t
              have hsucc : gr n far (t + 1) = gStep n far (gr n far t) := rfl
              have hgt := HG2.out t
              have hstay := gr_stays (n := n) (far := far) (t := t) (u := L)
              rw [← HG.out] at hgt hstay
              have hend := HG1.out
              rw [← HG.out] at hend
              rw [gStep, ← HG.out] at hsucc
              have hszx := hblx.size
              have hgL : t = L → (gr n far t).2 = G := by rintro rfl; exact hend
              generalize gr n far t = st at *
              obtain ⟨mv, c⟩ := st
              simp only at hown hct hlent hgt hstay hsucc hgL hkn
              have HST := Lib.hid hstay
              have HGT := Lib.hid hgt
              have HS := Lib.hid hsucc
              have HGL := Lib.hid hgL
              clear hstay hgt hsucc hend hgL
              by_cases hcg : c = G
              · have hb : ((c : Int) != (G : Int)) = false := by simp [hcg]
                have HC := Lib.hid hcg
                clear hcg
                go_wp2
                go_ret2
                exact ⟨_, by rw [HO1.out]; rfl, by rw [HL1.out, HST.out HC.out ht]; exact hown, hblx⟩
              · have hb : ((c : Int) != (G : Int)) = true := by simp only [bne_iff_ne, ne_eq]; omega
                have htL : t < L := by
                  apply Classical.byContradiction
                  intro h
                  exact hcg (HGL.out (by omega))
                have hsome := HGT.out htL hcg
                have HSM := Lib.hid hsome
                have hs2 := HS.out
                rw [if_neg hcg] at hs2
                have HS2 := Lib.hid hs2
                have hzc := zeros_use HZZ.out (show c < 2 ^ n by rw [← HN.out]; exact hct)
                have hc1 : 1 ≤ nth far c := by
                  have : nth far c ≠ 0 := fun e => hcg (by rw [hzc.1 e, ← HG.out])
                  omega
                have hc2 : nth far c ≤ 1000 := hzc.2.1
                have HP2 := Lib.hid (fun i => pick2_eq (n := n) (i := i) hc1 hc2)
                have HCG := Lib.hid hcg
                clear hsome hs2 HST HGT HS HGL hcg hzc
                go_wp2
                go_loopg [14, 15, 16] (2 * n + 1) (fun k v8 v9 sm wy => ∃ i : Nat, i ≤ 2 * n + 1 ∧ k = 2 * n + 1 - i ∧ sm = .int .i64 ((i : Int) - n) ∧ v8 = u14 ∧ v9 = .int .i64 c ∧ (∀ j, j < i → pick n far c j = false) ∧ Own wy w.heap.size 3 u14 mv ∧ Own wy w.heap.size 3 (.slice (some ⟨w.heap.size, 0, none⟩) N N) far ∧ Below w.heap.size w wy)
                case atStart => exact ⟨0, by omega, rfl, by simp, rfl, rfl, fun j hj => absurd hj (by omega), hown, hfx, hblx⟩
                case round =>
                  clear hown hfx hblx hszx
                  obtain ⟨i, hi, rfl, rfl, rfl, rfl, hno, hown, hfx, hblx⟩ := hrel
                  have HNO := Lib.hid hno
                  clear hno
                  have hszx := hblx.size
                  by_cases hlt : i < 2 * n + 1
                  · have hcN : c < 2 ^ n := by rw [← HN.out]; exact hct
                    have hto : moveTo c ((i : Int) - n) < N := by rw [HN.out]; exact moveTo_lt hcN (by omega)
                    obtain ⟨g', cap', he, hgl, hfz, hcl⟩ := hfx.at (by rw [HLN.out]; omega)
                    obtain ⟨rfl, rfl⟩ : w.heap.size = g' ∧ N = cap' := by simp at he; exact ⟨he.1, he.2.2⟩
                    have hcd := hcl (moveTo c ((i : Int) - n)) (by rw [HLN.out]; omega)
                    have hcc := hcl c (by rw [HLN.out]; omega)
                    have hpk : pick n far c i = (moveOk c ((i : Int) - n) && decide (0 ≤ nth far (moveTo c ((i : Int) - n))) && (nth far (moveTo c ((i : Int) - n)) == wrap64 (nth far c - 1))) := by rw [← HP2.out i]; rfl
                    have hm1 : -(n : Int) ≤ (i : Int) - n := by omega
                    have hm2 : (i : Int) - n ≤ n := by omega
                    have HAF := Lib.hid (after_any n c ((i : Int) - n) wr (by omega) (by omega) hm1 hm2)
                    have haf : afterTo n c ((i : Int) - n) = if moveOk c ((i : Int) - n) = true then ((moveTo c ((i : Int) - n) : Nat) : Int) else -1 := by
                      rw [afterTo, moveTo]
                      by_cases hh : moveOk c ((i : Int) - n) = true
                      · rw [if_pos ⟨by omega, hh⟩, if_pos hh, if_pos hh]
                      · rw [if_neg (fun h => hh h.2), if_neg hh]
                    rw [haf] at HAF
                    have hwr : wrap64 (nth far c - 1) = nth far c - 1 := IntWalk.wrap64_in _ (by omega)
                    rw [hwr] at hpk
                    generalize htoe : moveTo c ((i : Int) - n) = d at *
                    generalize hoke : moveOk c ((i : Int) - n) = ok at *
                    have HPK := Lib.hid hpk
                    have HTO := Lib.hid htoe
                    clear he hcl hfz hpk htoe hoke haf hwr hgl
                    cases ok with
                    | false =>
                      rw [if_neg (by decide)] at HAF
                      go_wp2_with fail
                      refine HAF.out.mono ?_
                      rintro e w3 ⟨rfl, rfl⟩
                      have dn : decide (0 ≤ (-1 : Int)) = false := by decide
                      go_wp2
                      go_quiet (fail)
                      go_wp2
                      go_roundg (2 * n + 1 - (i + 1))
                      case measure => omega
                      case rel => exact ⟨i + 1, by omega, rfl, by go_num, rfl, rfl, fun j hj => (by
                        by_cases e : j = i
                        · rw [e]; exact HPK.out
                        · exact HNO.out j (by omega)), hown, hfx, below_drewN hblx _⟩
                    | true =>
                      rw [if_pos rfl] at HAF
                      have dge : decide (0 ≤ (d : Int)) = true := by simp
                      cases hkn2 : decide (0 ≤ nth far d) with
                      | false =>
                        rw [hkn2] at HPK
                        go_wp2_with fail
                        refine HAF.out.mono ?_
                        rintro e w3 ⟨rfl, rfl⟩
                        go_wp2
                        go_quiet (fail)
                        go_wp2
                        go_roundg (2 * n + 1 - (i + 1))
                        case measure => omega
                        case rel => exact ⟨i + 1, by omega, rfl, by go_num, rfl, rfl, fun j hj => (by
                          by_cases e : j = i
                          · rw [e]; exact HPK.out
                          · exact HNO.out j (by omega)), hown, hfx, below_drewN hblx _⟩
                      | true =>
                        rw [hkn2] at HPK
                        cases heq : (nth far d == nth far c - 1) with
                        | false =>
                          rw [heq] at HPK
                          go_wp2_with fail
                          refine HAF.out.mono ?_
                          rintro e w3 ⟨rfl, rfl⟩
                          go_wp2
                          go_quiet (fail)
                          go_wp2
                          go_roundg (2 * n + 1 - (i + 1))
                          case measure => omega
                          case rel => exact ⟨i + 1, by omega, rfl, by go_num, rfl, rfl, fun j hj => (by
                            by_cases e : j = i
                            · rw [e]; exact HPK.out
                            · exact HNO.out j (by omega)), hown, hfx, below_drewN hblx _⟩
                        | true =>
                          rw [heq] at HPK
                          go_wp2_with fail
                          refine HAF.out.mono ?_
                          rintro e w3 ⟨rfl, rfl⟩
                          go_wp2
                          go_quiet (fail)
                          have HSF := Lib.hid (HS2.out)
                          rw [gFind_some HNO.out hlt HPK.out] at HSF
                          simp only [HTO.out] at HSF
                          have hown3 : Own (wr.drewN nq) w.heap.size 3 u14 mv := hown
                          have hfx3 : Own (wr.drewN nq) w.heap.size 3 (.slice (some ⟨w.heap.size, 0, none⟩) N N) far := hfx
                          have hbl3 := below_drewN hblx nq
                          generalize wr.drewN nq = w4 at *
                          have hsz4 := hbl3.size
                          have hmb : -9223372036854775808 ≤ (i : Int) - n ∧ (i : Int) - n ≤ 9223372036854775807 := by omega
                          go_wp2_with (at_builtin; refine wpl_append1 TI rfl _ _ rfl rfl rfl hown3 hmb (by omega) hsz4 ?_)
                          intro v5 w5 h51 h52 h53
                          have hfx5 := hfx3.grown h52 hsep.symm
                          have hsep5 := (hsep.symm.new hfx3.lies h53).symm
                          have hbl5 := below_grown hbl3 hown3 h52 hsz4
                          clear h52 h53 hfx3 hown3 hsep hbl3 hown hfx hblx hcd hcc
                          go_wp2
                          go_roundg (L - (t + 1))
                          case measure => omega
                          case rel => exact ⟨t + 1, by omega, rfl, by rw [HSF.out], by rw [HSF.out]; exact h51, hsep5, hfx5, hbl5⟩
                  · exfalso
                    have h0 := HSM.out
                    rw [gFind_none HNO.out (by omega)] at h0
                    simp at h0
        · have hql : 0 < q.length := by
            cases q with
            | nil => exact absurd rfl hq0
            | cons c q => simp
          obtain ⟨g9, c9, rfl, _, _, _⟩ := hq.at (by rw [qs_len]; omega)
          simp only [qs_len] at hq hsep ⊢
          have htl := hnot hq0
          have HQ0 := Lib.hid hq0
          have e1 : (2 * n + 1) * t ≤ 17 * 256 := Nat.mul_le_mul (by omega) (by omega)
          have hlq : q.length ≤ 5000 := by omega
          clear hnot hq0 e1 hlen
          go_wp2
          go_loopg [10, 11] q.length (fun k nv sk wx => ∃ (kk : Nat) (fa : List Int) (nx : List Nat), kk ≤ q.length ∧ t + kk ≤ N ∧ k = q.length - kk ∧ sk = .int .i64 kk ∧ bfs n p (t + kk) = (fa, q.drop kk ++ nx) ∧ Own wx w.heap.size 3 (.slice (some ⟨w.heap.size, 0, none⟩) N N) fa ∧ Own wx w.heap.size 3 nv (qs nx) ∧ Sep nv (.slice (some ⟨w.heap.size, 0, none⟩) N N) ∧ Own wx w.heap.size 3 (.slice (some ⟨g9, 0, none⟩) q.length c9) (qs q) ∧ Sep nv (.slice (some ⟨g9, 0, none⟩) q.length c9) ∧ Below w.heap.size w wx)
          case atStart => exact ⟨0, far, [], by omega, by omega, rfl, rfl, by simpa using HST.out, hown, Own.nil _ _ _, fun k h => by simp [Value.ownBlock] at h, hq, fun k h => by simp [Value.ownBlock] at h, hblx⟩
          case round =>
            clear hown hq hblx hszx
            obtain ⟨kk, fa, nx, hkk, htkN, rfl, rfl, hbf, hown, hnx, hsep1, hfv, hsep2, hblx⟩ := hrel
            have hszx := hblx.size
            have hinvk := bfs_inv hn1 p (t + kk)
            have hlenk := bfs_len n p (t + kk)
            rw [hbf] at hinvk hlenk
            simp only at hinvk hlenk
            have htk := HT.out (t + kk)
            rw [hbf] at htk
            simp only at htk
            by_cases hlt : kk < q.length
            · have htk1 : t + kk < N := htk (by
                intro h
                have : (q.drop kk ++ nx).length = 0 := by rw [h]; rfl
                simp at this; omega)
              obtain ⟨c, hc⟩ : ∃ c : Nat, c = q[kk] := ⟨_, rfl⟩
              have hdrop : q.drop kk = c :: q.drop (kk + 1) := by rw [hc]; exact List.drop_eq_getElem_cons hlt
              have hcN : c < 2 ^ n := by rw [hc]; exact hinv.2.2 _ (List.getElem_mem hlt)
              rw [hdrop] at hbf
              have HBN := Lib.hid (bfs_next hbf)
              have hcx := hcN
              rw [← HN.out] at hcx
              have e1 : (2 * n + 1) * (t + kk) ≤ 17 * 256 := Nat.mul_le_mul (by omega) (by omega)
              have hnl : nx.length ≤ 5000 := by simp at hlenk; omega
              have hinv0 : Inv n (fa, nx) := ⟨hinvk.1, hinvk.2.1, fun d hd => hinvk.2.2 d (by simp [hd])⟩
              have hnc : nth (qs q) kk = (c : Int) := by rw [qs_nth q kk hlt, hc]
              have HNC := Lib.hid hnc
              have hkl : (kk : Int) < (q.length : Int) := by omega
              clear hnc hdrop hbf hc e1 hlenk htk hinvk
              go_wp2
              go_loopg [10, 12] (2 * n + 1) (fun k nv sm wy => ∃ i : Nat, i ≤ 2 * n + 1 ∧ k = 2 * n + 1 - i ∧ sm = .int .i64 ((i : Int) - n) ∧ Own wy w.heap.size 3 (.slice (some ⟨w.heap.size, 0, none⟩) N N) (inTo n p c (fa, nx) i).1 ∧ Own wy w.heap.size 3 nv (qs (inTo n p c (fa, nx) i).2) ∧ Sep nv (.slice (some ⟨w.heap.size, 0, none⟩) N N) ∧ Own wy w.heap.size 3 (.slice (some ⟨g9, 0, none⟩) q.length c9) (qs q) ∧ Sep nv (.slice (some ⟨g9, 0, none⟩) q.length c9) ∧ Below w.heap.size w wy)
              case atStart => exact ⟨0, by omega, rfl, by simp, hown, hnx, hsep1, hfv, hsep2, hblx⟩
              case round =>
                clear hown hnx hsep1 hfv hsep2 hblx hszx
                obtain ⟨i, hi, rfl, rfl, hown, hnx, hsep1, hfv, hsep2, hbly⟩ := hrel
                have hszy := hbly.size
                by_cases hlti : i < 2 * n + 1
                · have hinvi := inTo_inv (p := p) (k := i) hcN hi hinv0
                  have hleni := inTo_len n p c (fa, nx) i
                  have hsucc := inTo_succ n p c (fa, nx) i
                  simp only at hleni
                  generalize inTo n p c (fa, nx) i = st at *
                  obtain ⟨fb, qu⟩ := st
                  simp only at hown hnx hinvi hleni
                  have hto : moveTo c ((i : Int) - n) < N := by rw [HN.out]; exact moveTo_lt hcN (by omega)
                  have hfl : fb.length = N := by rw [HN.out]; exact hinvi.1
                  obtain ⟨g', cap', he, hgl, hfz, hcl⟩ := hown.at (by omega)
                  obtain ⟨rfl, rfl⟩ : w.heap.size = g' ∧ N = cap' := by simp at he; exact ⟨he.1, he.2.2⟩
                  have hct := hcl (moveTo c ((i : Int) - n)) (by omega)
                  have hcc := hcl c (by omega)
                  have hft := hfz (moveTo c ((i : Int) - n))
                  obtain ⟨g9', cp9, he9, hgl9, hfz9, hcl9⟩ := hfv.at (by rw [qs_len]; omega)
                  have hc9 := hcl9 kk (by rw [qs_len]; omega)
                  rw [HNC.out] at hc9
                  have hm1 : -(n : Int) ≤ (i : Int) - n := by omega
                  have hm2 : (i : Int) - n ≤ n := by omega
                  have HAF := Lib.hid (after_any n c ((i : Int) - n) wr (by omega) (by omega) hm1 hm2)
                  have haf : afterTo n c ((i : Int) - n) = if moveOk c ((i : Int) - n) = true then ((moveTo c ((i : Int) - n) : Nat) : Int) else -1 := by
                    rw [afterTo, moveTo]
                    by_cases hh : moveOk c ((i : Int) - n) = true
                    · rw [if_pos ⟨by omega, hh⟩, if_pos hh, if_pos hh]
                    · rw [if_neg (fun h => hh h.2), if_neg hh]
                  rw [haf] at HAF
                  rw [inStep] at hsucc
                  generalize htoe : moveTo c ((i : Int) - n) = d at *
                  generalize hoke : moveOk c ((i : Int) - n) = ok at *
                  have HS := Lib.hid hsucc
                  have hqn : (qs q).length = q.length := qs_len q
                  obtain ⟨rfl, rfl⟩ : g9 = g9' ∧ c9 = cp9 := by simp at he9; exact ⟨he9.1, he9.2.2⟩
                  clear he he9 hcl hfz hsucc htoe hoke haf hfz9 hcl9 hqn
                  cases ok with
                  | false =>
                    rw [if_neg (by decide)] at HAF
                    go_wp2_with fail
                    refine HAF.out.mono ?_
                    rintro e w3 ⟨rfl, rfl⟩
                    go_wp2
                    go_roundg (2 * n + 1 - (i + 1))
                    case measure => omega
                    case rel => exact ⟨i + 1, by omega, rfl, by go_num, by rw [HS.out]; exact hown, by rw [HS.out]; exact hnx, hsep1, hfv, hsep2, hbly⟩
                  | true =>
                    rw [if_pos rfl] at HAF
                    have hpop := pop_le 12 d
                    have dge : decide (0 ≤ (d : Int)) = true := by simp
                    by_cases h2 : nth fb d < 0
                    · have dd2 : decide (nth fb d < 0) = true := by simpa using h2
                      by_cases h3 : ((pop 12 d : Nat) : Int) ≤ p
                      · have dd3 : decide (((pop 12 d : Nat) : Int) ≤ p) = true := by simpa using h3
                        rw [if_pos (by simp [h2, h3])] at HS
                        have hset := own_set hown d (wrap64 (nth fb c + 1)) (wrap64_fits _)
                        have hblz : Below w.heap.size w (wr.setCell ⟨w.heap.size, d, none⟩ (.int .i64 (wrap64 (nth fb c + 1)))) := hbly.setCell (Nat.le_refl _) _
                        have HWZ := Lib.hid (show (wr.setCell ⟨w.heap.size, d, none⟩ (.int .i64 (wrap64 (nth fb c + 1)))).heap.size = wr.heap.size by simp [World.setCell])
                        have hnz := hnx.grown (v := .slice (some ⟨w.heap.size, 0, none⟩) N N) hset.2 hsep1
                        have hfz' : Own (wr.setCell ⟨w.heap.size, d, none⟩ (.int .i64 (wrap64 (nth fb c + 1)))) w.heap.size 3 (.slice (some ⟨g9, 0, none⟩) q.length c9) (qs q) := hfv.grown (v := .slice (some ⟨w.heap.size, 0, none⟩) N N) hset.2 hsep
                        have hll : ((qs qu).length + 1) * 8 ≤ 140737488351232 := by rw [qs_len]; omega
                        have hdb : -9223372036854775808 ≤ (d : Int) ∧ (d : Int) ≤ 9223372036854775807 := by omega
                        go_wp2_with fail
                        refine HAF.out.mono ?_
                        rintro e w3 ⟨rfl, rfl⟩
                        go_wp2_with fail
                        refine (count_any d _ (by omega)).mono ?_
                        rintro e w3 ⟨rfl, rfl⟩
                        go_wp2_with (at_builtin; refine wpl_append1 TI rfl _ _ rfl rfl ?hx hnz hdb hll ?hb ?_)
                        case hx => rw [HWZ.out]; rfl
                        case hb => rw [HWZ.out]; omega
                        intro v' w4 h41 h42 h43
                        have hownz := hset.1.grown h42 hsep1.symm
                        have hfvz := hfz'.grown h42 hsep2.symm
                        have hs1 := (hsep1.symm.new hset.1.lies h43).symm
                        have hs2 := (hsep2.symm.new hfz'.lies h43).symm
                        have hbl4 : Below w.heap.size w w4 := hblz.grown h42 (by rw [HWZ.out]; omega) (fun k hk => hnx.base_le k hk)
                        rw [← qs_snoc] at h41
                        clear h42 h43 hnx hset hblz hnz hown hct hcc hft hsep1 hsep2 hfz' hfv hc9
                        go_wp2
                        go_roundg (2 * n + 1 - (i + 1))
                        case measure => omega
                        case rel => exact ⟨i + 1, by omega, rfl, by go_num, by rw [HS.out]; exact hownz, by rw [HS.out]; exact h41, hs1, hfvz, hs2, hbl4⟩
                      · have dd3 : decide (((pop 12 d : Nat) : Int) ≤ p) = false := by simpa using h3
                        rw [if_neg (by simp [h3])] at HS
                        go_wp2_with fail
                        refine HAF.out.mono ?_
                        rintro e w3 ⟨rfl, rfl⟩
                        go_wp2_with fail
                        refine (count_any d _ (by omega)).mono ?_
                        rintro e w3 ⟨rfl, rfl⟩
                        go_wp2
                        go_roundg (2 * n + 1 - (i + 1))
                        case measure => omega
                        case rel => exact ⟨i + 1, by omega, rfl, by go_num, by rw [HS.out]; exact hown, by rw [HS.out]; exact hnx, hsep1, hfv, hsep2, hbly⟩
                    · have dd2 : decide (nth fb d < 0) = false := by simpa using h2
                      rw [if_neg (by simp [h2])] at HS
                      go_wp2_with fail
                      refine HAF.out.mono ?_
                      rintro e w3 ⟨rfl, rfl⟩
                      go_wp2
                      go_roundg (2 * n + 1 - (i + 1))
                      case measure => omega
                      case rel => exact ⟨i + 1, by omega, rfl, by go_num, by rw [HS.out]; exact hown, by rw [HS.out]; exact hnx, hsep1, hfv, hsep2, hbly⟩
                · obtain rfl : i = 2 * n + 1 := by omega
                  have hh : ((2 * n + 1 : Nat) : Int) - n = n + 1 := by omega
                  rw [hh]
                  clear hh
                  go_wp2
                  go_roundg (q.length - (kk + 1))
                  case measure => omega
                  case rel => exact ⟨kk + 1, _, _, by omega, by omega, rfl, by go_num, HBN.out, hown, hnx, hsep1, hfv, hsep2, hbly⟩
            · obtain rfl : kk = q.length := by omega
              have hbf2 : bfs n p (t + q.length) = (fa, nx) := by rw [hbf]; simp
              have HBF := Lib.hid hbf2
              have hle : t + q.length ≤ N := htkN
              clear hbf hbf2 htk hlenk
              go_wp2
              go_roundg (N - (t + q.length))
              case measure => omega
              case rel => exact ⟨t + q.length, hle, rfl, by rw [HBF.out]; exact hown, by rw [HBF.out]; exact hnx, hsep1, hblx⟩
end Go.Proofs.Ytpeiajmgkhajoaa
