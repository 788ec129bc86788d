/- Walk of distances. -/
import Derived.Test.YtpeiajmgkhajoaaPebI
import Derived.Test.YtpeiajmgkhajoaaRow
import Derived.Deep.LoopGhost
namespace Go.Proofs.Ytpeiajmgkhajoaa
set_option linter.unusedVariables false
open Go.RowKit

def fillTo (N i : Nat) : List Int := List.replicate i (-1) ++ List.replicate (N - i) 0
theorem fillTo_succ (N i : Nat) (h : i < N) : fillTo N (i + 1) = (fillTo N i).set i (-1) := by
  unfold fillTo
  rw [List.set_append_right _ _ (by simp), show N - i = (N - (i + 1)) + 1 by omega, List.replicate_succ' (n := i), List.replicate_succ (n := N - (i + 1))]
  simp
theorem fillTo_len (N i : Nat) (h : i ≤ N) : (fillTo N i).length = N := by simp [fillTo]; omega
theorem fillTo_all (N : Nat) : fillTo N N = List.replicate N (-1) := by simp [fillTo]

/-- the numbers of a queue -/
def qs (q : List Nat) : List Int := q.map (fun (c : Nat) => (c : Int))

set_option maxHeartbeats 3200000 in
theorem distances_any (n : Nat) (p : Int) (w : World) (hn1 : 1 ≤ n) (hn8 : n ≤ 8) (hp : 1 ≤ p) (hp2 : p ≤ 9223372036854775807) (hdone : (bfs n p (2 ^ n)).2 = []) :
    Calls Try.prog 26 #[.int .i64 n, .int .i64 p, .int .i64 ((2 ^ (n - 1) : Nat) : Int)] w fun e w' => ∃ v, e = .returned v ∧ Own w' w.heap.size 3 v (bfs n p (2 ^ n)).1 ∧ Below w.heap.size w w' := by
  obtain ⟨N, hN⟩ : ∃ N : Nat, N = 2 ^ n := ⟨_, rfl⟩
  have hN8 : N ≤ 256 := by rw [hN]; exact Nat.pow_le_pow_right (n := 2) (by decide) hn8
  obtain ⟨G, hG⟩ : ∃ G : Nat, G = 2 ^ (n - 1) := ⟨_, rfl⟩
  have hGN : G < N := by rw [hN, hG]; exact Nat.pow_lt_pow_right (by decide) (by omega)
  have hw : wrap64 ((2 : Int) ^ n) = (N : Int) := by
    have e : ((2 : Int) ^ n) = ((2 ^ n : Nat) : Int) := by simp
    rw [e, ← hN]; exact IntWalk.wrap64_in _ (by omega)
  have HN := Lib.hid hN
  have HG := Lib.hid hG
  have HD := Lib.hid hdone
  rw [← hG]
  clear hN hG hdone
  go_enter Try.func26, Try.ntmps26
  go_wp2_with (at_make; refine wpl_makeInts TI rfl _ _ rfl N rfl rfl hw hw (by omega) (Nat.le_refl _) ?_)
  intro w1 own1 hg1
  have hb1 : Below w.heap.size w w1 := (Below.refl _ _).grown hg1 (Nat.le_refl _) (by simp)
  rw [show List.replicate N 0 = fillTo N 0 by simp [fillTo]] at own1
  clear hg1
  go_wp2
  go_loopg [19] N (fun k si wr => ∃ i : Nat, i ≤ N ∧ k = N - i ∧ si = .int .i64 i ∧ Own wr w.heap.size 3 (.slice (some ⟨w.heap.size, 0, none⟩) N N) (fillTo N i) ∧ Below w.heap.size w wr)
  case atStart => exact ⟨0, by omega, rfl, rfl, own1, hb1⟩
  case round =>
    obtain ⟨i, hiN, rfl, rfl, hown, hbl⟩ := hrel
    by_cases hlt : i < N
    · obtain ⟨g, cap, he, hgl, hfz, hcl⟩ := hown.at (by rw [fillTo_len N i hiN]; omega)
      have hcell := hcl i (by rw [fillTo_len N i hiN]; omega)
      have hfr := hfz i
      obtain ⟨rfl, rfl⟩ : w.heap.size = g ∧ N = cap := by simp at he; exact ⟨he.1, he.2.2⟩
      have hset := own_set hown i (-1) (by omega)
      rw [← fillTo_succ N i hlt] at hset
      have hbl2 : Below w.heap.size w (wr.setCell ⟨w.heap.size, i, none⟩ (.int .i64 (-1))) := hbl.setCell (Nat.le_refl _) _
      clear he hcl hfz own1 hb1 hown
      go_wp2
      go_roundg (N - (i + 1))
      case measure => omega
      case rel => exact ⟨i + 1, by omega, rfl, by go_num, hset.1, hbl2⟩
    · obtain rfl : N = i := by omega
      rw [fillTo_all] at hown
      obtain ⟨g, cap, he, hgl, hfz, hcl⟩ := hown.at (by simp; omega)
      have hcell := hcl G (by simp; omega)
      have hfr := hfz G
      obtain ⟨rfl, rfl⟩ : w.heap.size = g ∧ N = cap := by simp at he; exact ⟨he.1, he.2⟩
      have hset := own_set hown G 0 (by omega)
      have hbl2 : Below w.heap.size w (wr.setCell ⟨w.heap.size, G, none⟩ (.int .i64 0)) := hbl.setCell (Nat.le_refl _) _
      have hsz0 := hbl.size
      clear he hcl hfz own1 hb1 hown
      go_wp2
      have hwz := Lib.hid (show (wr.setCell ⟨w.heap.size, G, none⟩ (.int .i64 0)).heap.size = wr.heap.size by simp [World.setCell])
      generalize wr.setCell ⟨w.heap.size, G, none⟩ (.int .i64 0) = w2 at *
      go_loopg [9] N (fun k qv wx => ∃ t : Nat, t ≤ N ∧ k = N - t ∧ Own wx w.heap.size 3 (.slice (some ⟨w.heap.size, 0, none⟩) N N) (bfs n p t).1 ∧ IntsS wx w.heap.size 3 qv (qs (bfs n p t).2) ∧ Sep qv (.slice (some ⟨w.heap.size, 0, none⟩) N N) ∧ Below w.heap.size w wx)
      case atStart =>
        have hb2 : Below w2.heap.size w2 (w2.alloc (.cells #[.int .i64 (G : Int)] 3)) := (Below.refl _ _).alloc (Nat.le_refl _) _
        have hs2 : w.heap.size + 1 ≤ w2.heap.size := by have := hset.1.lies w.heap.size rfl; omega
        refine ⟨0, by omega, rfl, ?_, ⟨fun x hx => ?_, ?_⟩, ?_, hbl2.alloc (by omega) _⟩
        · have e : (bfs n p 0).1 = (List.replicate N (-1)).set G 0 := by rw [bfs, ← HN.out, ← HG.out]
          rw [e]; exact hset.1.below hb2
        · simp [bfs, qs] at hx
          have : (x : Int) = ((2 ^ (n - 1) : Nat) : Int) := by simpa using hx
          rw [← HG.out] at this; omega
        · have e : (qs (bfs n p 0).2).map (Value.int .i64) = [Value.int .i64 (G : Int)] := by simp only [bfs, qs, List.map_cons, List.map_nil, ← HG.out]
          rw [e, ← hwz.out]
          exact RowS.of_row (own_lit w2 w.heap.size 3 [(G : Int)] (by simp) (fun x hx => by simp at hx; omega) (by omega)).2.2
        · intro k h1 h2
          simp only [Value.ownBlock, Option.some.injEq] at h1 h2
          omega
      case round =>
        obtain ⟨t, htN, rfl, hown, hq, hsep, hblx⟩ := hrel
        have hinv := bfs_inv hn1 p t
        have hlen := bfs_len n p t
        have hstep : bfs n p (t + 1) = outStep n p (bfs n p t) := rfl
        generalize hst : bfs n p t = st at *
        obtain ⟨far, q⟩ := st
        simp only at hown hq hinv hlen
        have HST := Lib.hid hst
        have HSP := Lib.hid hstep
        clear hst hstep hset hbl2 hwz hgl hcell hfr
        have hszx := hblx.size
        cases q with
        | nil =>
          have hqf : ∃ a c, u9 = .slice a 0 c := by
            rcases hq.2 with ⟨h, _⟩ | ⟨g, off, cap, cur, h, _⟩
            · exact ⟨none, 0, h⟩
            · exact ⟨_, cap, h⟩
          obtain ⟨a9, c9, rfl⟩ := hqf
          go_wp2
          go_ret
          have hfin : bfs n p (2 ^ n) = bfs n p t := by
            have h0 : (bfs n p t).2 = [] := by rw [HST.out]
            exact bfs_stays h0 (by rw [← HN.out]; exact htN)
          exact ⟨_, rfl, by rw [hfin, HST.out]; exact hown, hblx⟩
        | cons c q =>
          have htl : t < N := by
            apply Classical.byContradiction
            intro h
            have : t = N := by omega
            have h0 := HD.out
            rw [← HN.out, ← this, HST.out] at h0
            simp at h0
          have hc := hinv.2.2 c (by simp)
          rw [← HN.out] at hc
          obtain ⟨v2, hsl, hob, hq2⟩ := hq.2.tail TI
          obtain ⟨g, off, cap, rfl, hgl, hqc, _, hcl⟩ := hq.at (by simp [qs])
          have hc0 := hcl 0 (by simp [qs])
          have hn0 : nth (qs (c :: q)) 0 = (c : Int) := by simp [nth, qs]
          rw [hn0, Nat.add_zero] at hc0
          have hql : (qs (c :: q)).length = q.length + 1 := by simp [qs]
          rw [hql]
          rw [hql] at hsl
          clear hcl hn0 hql hq
          have hsep2 : Sep v2 (.slice (some ⟨w.heap.size, 0, none⟩) N N) := fun k h1 h2 => hsep k (by rw [← hob]; exact h1) h2
          have hfit2 : Fits (qs q) := fun x hx => by
            simp only [qs, List.mem_map] at hx
            obtain ⟨d, hd, rfl⟩ := hx
            have := hinv.2.2 d (by simp [hd])
            rw [← HN.out] at this; omega
          have hinv0 : Inv n (far, q) := ⟨hinv.1, hinv.2.1, fun d hd => hinv.2.2 d (by simp [hd])⟩
          have hlq : q.length ≤ 5000 := by
            have e1 : (2 * n + 1) * t ≤ 17 * 256 := Nat.mul_le_mul (by omega) (by omega)
            simp at hlen; omega
          have hcn : c < 2 ^ n := by rw [← HN.out]; exact hc
          have HB : Hid (bfs n p (t + 1) = inTo n p c (far, q) (2 * n + 1)) := by show _ = _; rw [HSP.out, outStep]
          clear hsep hinv hlen HSP HST hob
          go_wp2
          clear hc0 hsl hgl
          go_loopg [9, 11] (2 * n + 1) (fun k qv sm wy => ∃ i : Nat, i ≤ 2 * n + 1 ∧ k = 2 * n + 1 - i ∧ sm = .int .i64 ((i : Int) - n) ∧ Own wy w.heap.size 3 (.slice (some ⟨w.heap.size, 0, none⟩) N N) (inTo n p c (far, q) i).1 ∧ IntsS wy w.heap.size 3 qv (qs (inTo n p c (far, q) i).2) ∧ Sep qv (.slice (some ⟨w.heap.size, 0, none⟩) N N) ∧ Below w.heap.size w wy)
          case atStart => exact ⟨0, by omega, rfl, by simp, hown, ⟨hfit2, hq2⟩, hsep2, hblx⟩
          case round =>
            clear hown hq2 hsep2 hfit2
            obtain ⟨i, hi, rfl, rfl, hown, hq, hsep, hbly⟩ := hrel
            have hszy := hbly.size
            by_cases hlt : i < 2 * n + 1
            · have hinvi := inTo_inv (p := p) (k := i) hcn hi hinv0
              have hleni := inTo_len n p c (far, q) i
              have hsucc := inTo_succ n p c (far, q) i
              simp only at hleni
              generalize inTo n p c (far, q) i = st at *
              obtain ⟨fa, qu⟩ := st
              simp only at hown hq hinvi hleni
              have hto : moveTo c ((i : Int) - n) < N := by rw [HN.out]; exact moveTo_lt hcn (by omega)
              have hfl : fa.length = N := by rw [HN.out]; exact hinvi.1
              obtain ⟨g', cap', he, hgl, hfz, hcl⟩ := hown.at (by omega)
              obtain ⟨rfl, rfl⟩ : w.heap.size = g' ∧ N = cap' := by simp at he; exact ⟨he.1, he.2.2⟩
              have hct := hcl (moveTo c ((i : Int) - n)) (by omega)
              have hcc := hcl c (by omega)
              have hft := hfz (moveTo c ((i : Int) - n))
              have hm1 : -12 ≤ (i : Int) - n := by omega
              have hm2 : (i : Int) - n ≤ 12 := by omega
              rw [inStep] at hsucc
              generalize htoe : moveTo c ((i : Int) - n) = d at *
              generalize hoke : moveOk c ((i : Int) - n) = ok at *
              have HMV := Lib.hid (move_any c ((i : Int) - n) wr (by omega) hm1 hm2)
              rw [htoe, hoke] at HMV
              have HS := Lib.hid hsucc
              clear he hcl hfz hsucc htoe hoke
              cases ok with
              | false =>
                go_wp2_with fail
                refine HMV.out.mono ?_
                rintro e w3 ⟨rfl, rfl⟩
                go_wp2
                go_roundg (2 * n + 1 - (i + 1))
                case measure => omega
                case rel => exact ⟨i + 1, by omega, rfl, by go_num, by rw [HS.out]; exact hown, by rw [HS.out]; exact hq, hsep, hbly⟩
              | true =>
                have hpop := pop_le 12 d
                by_cases h2 : nth fa d < 0
                · have d2 : decide (nth fa d < 0) = true := by simpa using h2
                  by_cases h3 : ((pop 12 d : Nat) : Int) ≤ p
                  · have d3 : decide (((pop 12 d : Nat) : Int) ≤ p) = true := by simpa using h3
                    rw [if_pos (by simp [h2, h3])] at HS
                    have hset := own_set hown d (wrap64 (nth fa c + 1)) (wrap64_fits _)
                    have hblz : Below w.heap.size w (wr.setCell ⟨w.heap.size, d, none⟩ (.int .i64 (wrap64 (nth fa c + 1)))) := hbly.setCell (Nat.le_refl _) _
                    have hwz : (wr.setCell ⟨w.heap.size, d, none⟩ (.int .i64 (wrap64 (nth fa c + 1)))).heap.size = wr.heap.size := by simp [World.setCell]
                    have hqz := hq.2.grown (v := .slice (some ⟨w.heap.size, 0, none⟩) N N) hset.2 hsep
                    have hll : (((qs qu).map (Value.int .i64)).length + 1) * 8 ≤ 140737488355328 ∧ ((qs qu).map (Value.int .i64)).length + 1 ≤ maxLen := by
                      simp only [qs, List.length_map]; unfold maxLen; omega
                    have HWZ := Lib.hid hwz
                    clear hwz
                    go_wp2_with fail
                    refine HMV.out.mono ?_
                    rintro e w3 ⟨rfl, rfl⟩
                    go_wp2_with fail
                    refine (ones_any d _ (by omega)).mono ?_
                    rintro e w3 ⟨rfl, rfl⟩
                    go_wp2_with (at_builtin; refine wpl_push TI rfl rfl _ _ rfl rfl ?hx hqz rfl hll.1 hll.2 ?hb ?_)
                    case hx => rw [HWZ.out]; rfl
                    case hb => rw [HWZ.out]; omega
                    intro v' w4 h41 h42 h43
                    have hownz := hset.1.grown h42 hsep.symm
                    have hsepz := (hsep.symm.new hset.1.lies h43).symm
                    have hbl4 : Below w.heap.size w w4 := hblz.grown h42 (by rw [HWZ.out]; omega) (fun k hk => (hq.2.lt k hk).1)
                    have hq4 : IntsS w4 w.heap.size 3 v' (qs (qu ++ [d])) := by
                      refine ⟨?_, ?_⟩
                      · intro x hx
                        simp only [qs, List.map_append, List.mem_append] at hx
                        rcases hx with hx | hx
                        · exact hq.1 x hx
                        · simp at hx; omega
                      · have e : (qs (qu ++ [d])).map (Value.int .i64) = (qs qu).map (Value.int .i64) ++ [.int .i64 (d : Int)] := by simp [qs]
                        rw [e]; exact h41
                    clear h41 h42 h43 hq hset hblz hqz hown hct hcc hft hsep
                    go_wp2
                    go_roundg (2 * n + 1 - (i + 1))
                    case measure => omega
                    case rel => exact ⟨i + 1, by omega, rfl, by go_num, by rw [HS.out]; exact hownz, by rw [HS.out]; exact hq4, hsepz, hbl4⟩
                  · have d3 : decide (((pop 12 d : Nat) : Int) ≤ p) = false := by simpa using h3
                    rw [if_neg (by simp [h3])] at HS
                    go_wp2_with fail
                    refine HMV.out.mono ?_
                    rintro e w3 ⟨rfl, rfl⟩
                    go_wp2_with fail
                    refine (ones_any d _ (by omega)).mono ?_
                    rintro e w3 ⟨rfl, rfl⟩
                    go_wp2
                    go_roundg (2 * n + 1 - (i + 1))
                    case measure => omega
                    case rel => exact ⟨i + 1, by omega, rfl, by go_num, by rw [HS.out]; exact hown, by rw [HS.out]; exact hq, hsep, hbly⟩
                · have d2 : decide (nth fa d < 0) = false := by simpa using h2
                  rw [if_neg (by simp [h2])] at HS
                  go_wp2_with fail
                  refine HMV.out.mono ?_
                  rintro e w3 ⟨rfl, rfl⟩
                  go_wp2
                  go_roundg (2 * n + 1 - (i + 1))
                  case measure => omega
                  case rel => exact ⟨i + 1, by omega, rfl, by go_num, by rw [HS.out]; exact hown, by rw [HS.out]; exact hq, hsep, hbly⟩
            · obtain rfl : i = 2 * n + 1 := by omega
              have hh : ((2 * n + 1 : Nat) : Int) - n = n + 1 := by omega
              rw [hh]
              clear hh
              go_wp2
              go_roundg (N - (t + 1))
              case measure => omega
              case rel => exact ⟨t + 1, by omega, rfl, by rw [HB.out]; exact hown, by rw [HB.out]; exact hq, hsep, hbly⟩
end Go.Proofs.Ytpeiajmgkhajoaa
