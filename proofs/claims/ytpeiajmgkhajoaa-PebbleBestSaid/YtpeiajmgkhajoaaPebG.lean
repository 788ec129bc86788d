/- Walks of Bennett's strategy: the closure of package pebble. -/
import Derived.Test.YtpeiajmgkhajoaaPebF
import Derived.Deep.DeepCutAuto
namespace Go.Proofs.Ytpeiajmgkhajoaa
set_option linter.unusedVariables false
open Go.RowKit

theorem TP : RowT Try.prog 41 23 (.slice none 0 0) 1 24 := ⟨Try.underlying41, by kernel_rfl⟩

theorem cube_le {m : Nat} (h : m ≤ 500) : m * (m * m) ≤ 125000000 := Nat.mul_le_mul h (Nat.mul_le_mul h h)

theorem pres_le (f k a m i : Nat) (hk : 2 ≤ k) (hm : 2 ≤ m) (hf : m ≤ f + 1) (h5 : m ≤ 500) (hi : i ≤ min k m) : (pres (partOf f k a m) i).length ≤ 62750000 := by
  have hb : ∀ j, j < i → (partOf f k a m j).length ≤ sz m (min k m) j * (251 * 251) := fun j hj => by
    have hs := sz_half m (min k m) j (by omega)
    refine Nat.le_trans (strat_len f k _ _ hk (sz_pos _ _ _ (by omega) (by omega)) (by omega)) (Nat.mul_le_mul_left _ (Nat.mul_le_mul ?_ ?_)) <;> omega
  have e1 := pres_len (partOf f k a m) (251 * 251) (sz m (min k m)) i hb (offs m (min k m)) (offs_zero _ _) (offs_succ _ _)
  have h3 := offs_mono m (min k m) hi
  rw [offs_all m _ (by omega)] at h3
  have : offs m (min k m) i * (251 * 251) ≤ 500 * (251 * 251) := Nat.mul_le_mul_right _ (by omega)
  omega

theorem sufs_le (f k a m c : Nat) (hk : 2 ≤ k) (hm : 2 ≤ m) (hf : m ≤ f + 1) (h5 : m ≤ 500) (hc : c < min k m) : (sufs (partOf f k a m) (min k m) c).length ≤ 62750000 := by
  have hb : ∀ j, j < min k m → (partOf f k a m j).length ≤ sz m (min k m) j * (251 * 251) := fun j hj => by
    have hs := sz_half m (min k m) j (by omega)
    refine Nat.le_trans (strat_len f k _ _ hk (sz_pos _ _ _ (by omega) (by omega)) (by omega)) (Nat.mul_le_mul_left _ (Nat.mul_le_mul ?_ ?_)) <;> omega
  have e1 := sufs_len (partOf f k a m) (251 * 251) (sz m (min k m)) (min k m) c hc hb (offs m (min k m)) (offs_succ _ _)
  have h3 := offs_mono m (min k m) (show min k m - 1 ≤ min k m by omega)
  rw [offs_all m _ (by omega)] at h3
  have : offs m (min k m) (min k m - 1) * (251 * 251) ≤ 500 * (251 * 251) := Nat.mul_le_mul_right _ (by omega)
  omega

set_option maxHeartbeats 1600000 in
theorem strat_any (f : Nat) : ∀ (k a m : Nat) (ai mi : Int) (bk bs : Nat) (w : World), ai = a → mi = m → m ≤ f → 1 ≤ m → a + m ≤ 500 → 2 ≤ k → k ≤ 500 → bk < w.heap.size → bs < w.heap.size →
    w.cell? ⟨bk, 0, none⟩ = some (.int .i64 k) → w.cell? ⟨bs, 0, none⟩ = some (.func (.func 25) #[] #[.pointer (some ⟨bk, 0, none⟩), .pointer (some ⟨bs, 0, none⟩)]) →
    Calls Try.prog 25 #[.int .i64 ai, .int .i64 mi, .pointer (some ⟨bk, 0, none⟩), .pointer (some ⟨bs, 0, none⟩)] w fun e w' =>
      ∃ v, e = .returned v ∧ Own w' w.heap.size 3 v (strat f k a m) ∧ Below w.heap.size w w' := by
  induction f with
  | zero => intros; omega
  | succ f ih =>
    rintro k a m _ _ bk bs w rfl rfl hf hm ha hk hk5 hbk hbs hck hcs
    have IH := Lib.hid ih
    clear ih
    by_cases h1 : m = 1
    · subst h1
      go_enter Try.func25, Try.ntmps25
      go_wp2
      go_ret
      refine ⟨_, rfl, ?_, (Below.refl _ _).alloc (Nat.le_refl _) _⟩
      have e : strat (f + 1) k a 1 = [(a : Int) + 1] := by simp [strat]
      rw [e]
      exact own_lit w w.heap.size 3 [(a : Int) + 1] (by simp) (fun x hx => by simp at hx; omega) (Nat.le_refl _)
    · have hb1 : ((m : Int) == 1) = false := by simpa using (by omega : (m : Int) ≠ 1)
      have hp : 2 ≤ min k m := by omega
      obtain ⟨p, hpe⟩ : ∃ p, p = min k m := ⟨_, rfl⟩
      have hmin : min (k : Int) (m : Int) = (p : Int) := by omega
      have hp2 : 2 ≤ p := by omega
      have hp3 : p ≤ 500 := by omega
      have hpm : p ≤ m := by omega
      have HP := Lib.hid hpe
      clear hpe hp
      have hg : ∀ i, i < p → Within a (a + m) (partOf f k a m i) ∧ 1 ≤ sz m p i ∧ sz m p i ≤ f ∧ offs m p i + sz m p i ≤ m := fun i hi => by
        have hs := sz_half m p i hp2
        have h2 := offs_mono m p (show i + 1 ≤ p by omega)
        have h3 := sz_pos m p i (by omega) hpm
        rw [offs_succ, offs_all m _ (by omega)] at h2
        refine ⟨?_, h3, by omega, h2⟩
        rw [partOf, ← HP.out]
        exact (within_strat f k (a + offs m p i) (sz m p i) hk h3 (by omega)).mono (by omega) (by omega)
      have HG := Lib.hid hg
      clear hg
      go_enter Try.func25, Try.ntmps25
      go_upto_region 5 with fail
      go_cut [9] (fun s9 wx => s9 = .int .i64 p ∧ w = wx)
      case first =>
        go_wp2_with fail
        all_goals go_meet
        all_goals exact ⟨by congr 1; have := HP.out; omega, rfl⟩
      case rest =>
        obtain ⟨rfl, rfl⟩ := hcut
        go_wp2
        go_loopw [0, 7, 8, 23] (fun sa mv pv si wr => ∃ (i : Nat) (vs : List Value), i ≤ p ∧ vs.length = i ∧ si = .int .i64 i ∧ sa = .int .i64 ((a + offs m p i : Nat) : Int) ∧ Own wr w.heap.size 3 mv (pres (partOf f k a m) i) ∧ Parts wr w.heap.size 23 pv vs (partOf f k a m) mv ∧ Below w.heap.size w wr)
          (fun _ _ _ si _ => p - (intOf si).toNat)
        case atStart =>
          refine ⟨0, [], by omega, rfl, rfl, by rw [offs_zero]; rfl, Own.nil _ _ _, ⟨World.ownsRow_nil _ _ _ _, nofun, fun j hj => absurd hj (by simp)⟩, Below.refl _ _⟩
        case round =>
          obtain ⟨i, vs, hi, hvs, rfl, rfl, hown, hpar, hbl⟩ := hrel
          have HV := Lib.hid hvs
          clear hvs
          by_cases hlt : i < p
          · obtain ⟨g1, g2, g3, g4⟩ := HG.out i hlt
            have hsz := hbl.size
            have hck' : wr.cell? ⟨bk, 0, none⟩ = some (.int .i64 k) := (hbl.cell (by exact hbk)).trans hck
            have hcs' := (hbl.cell (p := ⟨bs, 0, none⟩) (by exact hbs)).trans hcs
            have hparts : partOf f k a m i = strat f k (a + offs m p i) (sz m p i) := by rw [partOf, ← HP.out]
            have HPA := Lib.hid hparts
            have hl1 : ((pres (partOf f k a m) i).length + (partOf f k a m i).length) * 8 ≤ 140737488351232 := by
              have := pres_le f k a m (i + 1) hk (by omega) hf (by omega) (by rw [← HP.out]; omega)
              rw [pres, List.length_append] at this; omega
            have hvl : (vs.length + 1) * 24 ≤ 140737488355328 ∧ vs.length + 1 ≤ maxLen := by rw [HV.out]; unfold maxLen; omega
            have hoff := Lib.hid (offs_succ m p i)
            have hq : ((m / p : Nat) : Int) = (m : Int) / (p : Int) := by simp
            have hq2 : ((m % p : Nat) : Int) = (m : Int) % (p : Int) := by simp
            have HSZ : Hid (sz m p i = m / p + if i < m % p then 1 else 0) := rfl
            have hmq : 0 ≤ (m : Int) / (p : Int) ∧ (m : Int) / (p : Int) ≤ 500 := by
              have := Nat.div_le_self m p
              rw [← hq]
              generalize m / p = q at this ⊢
              omega
            clear hparts hq2
            by_cases hr : i < m % p
            all_goals
              first
              | (have hsz : Hid (sz m p i = m / p + 1) := (by show _ = _; rw [HSZ.out, if_pos hr]))
              | (have hsz : Hid (sz m p i = m / p) := (by show _ = _; rw [HSZ.out, if_neg hr]; rfl))
              go_wp2_with fail
              refine (IH.out k (a + offs m p i) (sz m p i) _ _ bk bs wr (by simp) (by rw [hsz.out]; simp) (by omega) (by omega) (by omega) hk hk5 (by omega) (by omega) hck' hcs').mono ?_
              rintro e w1 ⟨v1, rfl, hv1, hb1⟩
              rw [← HPA.out] at hv1
              obtain ⟨a1, c1, rfl⟩ := hv1.form
              have hown1 := hown.below hb1
              have hsz1 := hb1.size
              go_wp2_with (at_builtin; refine wpl_appends TI rfl _ _ rfl rfl rfl hown1 hv1.ints hl1 (by omega) ?_)
              intro mv w2 hmv hg2 hn2
              have hsz2 := hg2.size
              have hpar2 := (hpar.below hb1).grown hg2 hn2
              go_wp2_with (at_builtin; refine wpl_append1v TP rfl rfl _ _ rfl rfl rfl hpar2.1 rfl hvl.1 hvl.2 (by omega) ?_)
              intro pv w3 hpv hg3 hn3
              have hfin := parts_step hpar hown hb1 (by rw [HV.out]; exact hv1) hmv hg2 hn2 hpv hg3 hn3
              have hbl3 : Below w.heap.size w w3 := (below_grown (hbl.trans (hb1.mono (by omega))) hown1 hg2 (by omega)).grown hg3 (by omega) (fun k hk => (hpar.1.lt k hk).1)
              clear hpv hg3 hn3 hmv hg2 hn2 hown hpar hown1 hpar2 hv1 hb1 hck' hcs'
              go_wp2
              go_roundw
              case rel => exact ⟨i + 1, vs ++ [_], by omega, by simp [HV.out], by go_num, by congr 1; have := hoff.out; have := hsz.out; omega, hfin.2, hfin.1, hbl3⟩
              case measure => simp [intOf]; omega
          · obtain rfl : i = p := by omega
            have HW : Hid (∀ j, j < i → Small (partOf f k a m j)) := fun j hj => (HG.out j hj).1.small (by omega)
            have HL : Hid (∀ c, c < i → ((pres (partOf f k a m) i).length + (sufs (partOf f k a m) i c).length) * 8 ≤ 140737488351232) := fun c hc => by
              have e1 := pres_le f k a m i hk (by omega) hf (by omega) (by rw [← HP.out]; omega)
              have e2 := sufs_le f k a m c hk (by omega) hf (by omega) (by rw [← HP.out]; omega)
              rw [← HP.out] at e2; omega
            clear HG
            go_wp2
            go_loopw [7, 13] (fun mv si wx => ∃ c : Nat, c < i ∧ si = .int .i64 ((i : Int) - 2 - c) ∧ Own wx w.heap.size 3 mv (pres (partOf f k a m) i ++ sufs (partOf f k a m) i c) ∧ Parts wx w.heap.size 23 u8 vs (partOf f k a m) mv ∧ Below w.heap.size w wx)
              (fun _ si _ => (intOf si + 2).toNat)
            case atStart => exact ⟨0, by omega, by simp, by simpa [sufs] using hown, hpar, hbl⟩
            case round =>
              obtain ⟨c, hc, rfl, hown, hpar, hbl⟩ := hrel
              by_cases hlast : c + 1 < i
              · obtain ⟨j, hj⟩ : ∃ j : Nat, j = i - 2 - c := ⟨_, rfl⟩
                have hji : (i : Int) - 2 - c = (j : Int) := by omega
                have hji2 : (i : Int) - 2 - ((c + 1 : Nat) : Int) = (j : Int) - 1 := by omega
                have hjl : j < vs.length := by rw [HV.out]; omega
                have hsuf : sufs (partOf f k a m) i (c + 1) = sufs (partOf f k a m) i c ++ negRev (partOf f k a m j) := by rw [sufs, hj]
                have HSF := Lib.hid hsuf
                have HJ2 := Lib.hid hji2
                have HJ := Lib.hid hji
                have hjs : (j : Int) < (vs.length : Int) := by omega
                have hj5 : j ≤ 500 := by omega
                rw [hji]
                clear hsuf hji2 hj hji
                obtain ⟨g, cap, rfl, hgl, hgf, hgc⟩ := row_at hpar.1 (by omega)
                have hcj := hgc j hjl
                clear hgc hgf
                obtain ⟨hp1, hp2', hp3', hp4⟩ := hpar.2.2 j hjl
                have hsm := HW.out j (by have := HV.out; omega)
                have hl2 := HL.out (c + 1) (by omega)
                have hsz := hbl.size
                go_wp2_with fail
                refine (inverse_any _ _ _ hp1 hsm).mono ?_
                rintro e w1 ⟨v1, rfl, hv1, hb1⟩
                have hown1 := hown.below hb1
                have hpar1 := hpar.below hb1
                have hsz1 := hb1.size
                go_wp2_with (at_builtin; refine wpl_appends TI rfl _ _ rfl rfl rfl hown1 hv1.ints (by rw [HSF.out] at hl2; simpa [Nat.add_assoc] using hl2) (by omega) ?_)
                intro mv w2 hmv hg2 hn2
                have hpar2 := hpar1.grown hg2 hn2
                have hbl2 := below_grown (hbl.trans (hb1.mono (by omega))) hown1 hg2 (by omega)
                clear hg2 hn2 hown hown1 hpar hpar1 hv1 hb1 hcj
                go_wp2
                go_roundw
                case rel => (repeat apply Exists.intro); exact ⟨⟨c + 1, by omega, by rw [HJ2.out], by rw [HSF.out]; exact hmv, hpar2, hbl2⟩, rfl⟩
                case measure => simp [intOf]; have := HJ.out; omega
              · have hci : (i : Int) - 2 - c = -1 := by omega
                have HC : Hid (c = i - 1) := by show _ = _; omega
                rw [hci]
                clear hci
                go_wp2
                go_ret
                exact ⟨_, rfl, by rw [strat_succ f k a m h1, ← HP.out, ← HC.out]; exact hown, hbl⟩
end Go.Proofs.Ytpeiajmgkhajoaa
