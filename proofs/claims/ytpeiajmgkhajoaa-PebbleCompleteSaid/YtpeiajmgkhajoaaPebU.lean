/- Bennett's strategy is complete, and how many pebbles it needs; in plain Lean. -/
import Derived.Test.YtpeiajmgkhajoaaPebL
namespace Go.Proofs.Ytpeiajmgkhajoaa
set_option linter.unusedVariables false

/-- the configuration behind the first i parts -/
def conf (on : List Bool) (a m p : Nat) : Nat → List Bool
  | 0 => on
  | i + 1 => (conf on a m p i).set (a + offs m p (i + 1)) true

theorem conf_len (on : List Bool) (a m p i : Nat) : (conf on a m p i).length = on.length := by
  induction i with
  | zero => rfl
  | succ i ih => rw [conf, List.length_set, ih]
theorem conf_at {on : List Bool} {a m p : Nat} {i j : Nat} (hl : a + m < on.length) (hp : 0 < p) (hi : i ≤ p) (hj : a + offs m p i < j) : onAt (conf on a m p i) j = onAt on j := by
  induction i with
  | zero => rfl
  | succ i ih =>
    have h1 := offs_mono m p (show i ≤ i + 1 by omega)
    have h2 := offs_mono m p hi
    rw [offs_all m p hp] at h2
    rw [conf, onAt_set _ _ _ _ (by rw [conf_len]; omega), if_neg (by omega)]
    exact ih (by omega) (by omega)

/-- a strategy may be played where its first node is free to be reached and its nodes are empty -/
def Free (on : List Bool) (a m : Nat) : Prop := (a = 0 ∨ onAt on a = true) ∧ ∀ j, a < j → j ≤ a + m → onAt on j = false

theorem runL_one {n : Int} {on : List Bool} {x : Int} (h : lgOk n on x = true) : runL n on [x] = some (lgStep on x) := by rw [runL, if_pos h]; rfl

theorem strat_run (f k a m : Nat) (hk : 2 ≤ k) (hm : 1 ≤ m) (hf : m ≤ f) (n : Nat) (on : List Bool) (hl : on.length = n + 1) (hn : a + m ≤ n) (hfree : Free on a m) : runL n on (strat f k a m) = some (on.set (a + m) true) := by
  induction f generalizing a m on with
  | zero => omega
  | succ f ih =>
    by_cases h1 : m = 1
    · subst h1
      rw [strat, if_pos rfl]
      have hab : ((a : Int) + 1).natAbs = a + 1 := by omega
      have hpos : decide (0 < (a : Int) + 1) = true := decide_eq_true (by omega)
      have hok : lgOk n on ((a : Int) + 1) = true := by
        have e1 : onAt on (a + 1) = false := hfree.2 (a + 1) (by omega) (by omega)
        rw [lgOk, hab, hpos, e1]
        rcases hfree.1 with h0 | h0
        · subst h0; simp; omega
        · simp [h0]; omega
      rw [runL_one hok, lgStep, hab, hpos]
    · obtain ⟨p, hp⟩ : ∃ p, p = min k m := ⟨_, rfl⟩
      have hp2 : 2 ≤ p := by omega
      have hpm : p ≤ m := by omega
      have hall := offs_all m p (by omega)
      -- a part, played from a configuration that is free for it
      have hpart : ∀ j, j < p → ∀ X : List Bool, X.length = n + 1 → Free X (a + offs m p j) (sz m p j) → runL n X (partOf f k a m j) = some (X.set (a + offs m p (j + 1)) true) := fun j hj X hX hF => by
        have hs := sz_half m p j hp2
        have h2 := offs_mono m p (show j + 1 ≤ p by omega)
        rw [offs_succ, hall] at h2
        have := ih (a + offs m p j) (sz m p j) (sz_pos m p j (by omega) hpm) (by omega) X hX (by omega) hF
        rw [partOf, ← hp, this, offs_succ, Nat.add_assoc]
      have hfreeP : ∀ j, j < p → Free (conf on a m p j) (a + offs m p j) (sz m p j) := fun j hj => by
        have h2 := offs_mono m p (show j + 1 ≤ p by omega)
        rw [hall] at h2
        refine ⟨?_, fun i h3 h4 => ?_⟩
        · cases j with
          | zero => rw [offs_zero, Nat.add_zero]; exact hfree.1
          | succ j =>
            right
            have h5 := offs_mono m p (show j + 1 ≤ p by omega)
            rw [hall] at h5
            rw [conf, onAt_set _ _ _ _ (by rw [conf_len]; omega), if_pos rfl]
        · rw [offs_succ] at h2
          rw [conf_at (by omega) (by omega) (by omega) h3]
          exact hfree.2 i (by omega) (by omega)
      have hpre : ∀ i, i ≤ p → runL n on (pres (partOf f k a m) i) = some (conf on a m p i) := fun i hi => by
        induction i with
        | zero => rfl
        | succ i ihi =>
          rw [pres, runL_append, ihi (by omega)]
          show runL n (conf on a m p i) (partOf f k a m i) = _
          rw [hpart i (by omega) _ (by rw [conf_len]; exact hl) (hfreeP i (by omega))]; rfl
      have hsuf : ∀ c, c < p → runL n (conf on a m p p) (sufs (partOf f k a m) p c) = some ((conf on a m p (p - 1 - c)).set (a + m) true) := fun c hc => by
        induction c with
        | zero =>
          rw [sufs, runL]
          obtain ⟨r, rfl⟩ : ∃ r, p = r + 1 := ⟨p - 1, by omega⟩
          show some (conf on a m (r + 1) (r + 1)) = _
          rw [conf, hall]; rfl
        | succ c ihc =>
          rw [sufs, runL_append, ihc (by omega)]
          show runL n ((conf on a m p (p - 1 - c)).set (a + m) true) (negRev (partOf f k a m (p - 2 - c))) = _
          obtain ⟨j, hj⟩ : ∃ j, j = p - 2 - c := ⟨_, rfl⟩
          rw [← hj, show p - 1 - (c + 1) = j by omega, show p - 1 - c = j + 1 by omega]
          have hlt : offs m p (j + 1) < m := by
            have h6 := offs_mono m p (show j + 2 ≤ p by omega)
            rw [hall, show j + 2 = (j + 1) + 1 from rfl, offs_succ] at h6
            have := sz_pos m p (j + 1) (by omega) hpm
            omega
          have hF := hfreeP j (by omega)
          have hX : Free ((conf on a m p j).set (a + m) true) (a + offs m p j) (sz m p j) := by
            have h7 : offs m p j + sz m p j < m := by rw [← offs_succ]; exact hlt
            refine ⟨?_, fun i h3 h4 => ?_⟩
            · rcases hF.1 with h | h
              · exact .inl h
              · right; rw [onAt_set _ _ _ _ (by rw [conf_len]; omega)]; split
                · rfl
                · exact h
            · rw [onAt_set _ _ _ _ (by rw [conf_len]; omega), if_neg (by omega)]
              exact hF.2 i h3 h4
          have hXl : ((conf on a m p j).set (a + m) true).length = n + 1 := by rw [List.length_set, conf_len]; exact hl
          have hr := hpart j (by omega) _ hXl hX
          have hback := runL_back (by rw [hXl]; simp) hr
          rw [conf, List.set_comm _ _ (by omega)]
          exact hback
      rw [strat_succ f k a m h1, ← hp, runL_append, hpre p (Nat.le_refl _)]
      show runL n (conf on a m p p) (sufs (partOf f k a m) p (p - 1)) = _
      rw [hsuf (p - 1) (by omega), show p - 1 - (p - 1) = 0 by omega]; rfl

theorem strat_legal (n k : Nat) (hk : 2 ≤ k) (hn : 1 ≤ n) : legalM n (strat n k 0 n) = ((strat n k 0 n).length, true) := by
  have hrun := strat_run n k 0 n hk hn (Nat.le_refl _) n (on0 n) (by simp [on0]) (by omega) ⟨.inl rfl, fun j _ _ => by
    simp only [onAt, on0, List.getElem?_replicate]; split <;> simp⟩
  rw [legalM, lgGo_some hrun 0, Nat.zero_add, Nat.zero_add]
  have e0 : onAt (on0 (n : Int)) n = false := by simp only [onAt, on0, List.getElem?_replicate]; split <;> simp
  have e2 : cnt (on0 (n : Int)) = 0 := by simp [cnt, on0, List.countP_replicate]
  have e3 : cnt ((on0 (n : Int)).set n true) = 1 := by rw [cnt_set_true _ _ (by simp [on0]) e0, e2]
  have e4 : onAt ((on0 (n : Int)).set n true) n = true := by rw [onAt_set _ _ _ _ (by simp [on0]), if_pos rfl]
  simp [complete, e3, e4]

/-- how much a sequence adds, and how high it rises above where it began -/
def Rise (l : List Int) (d h : Int) : Prop := ∀ pk s : Int, (l.foldl peakStep (pk, s)).2 = s + d ∧ (l.foldl peakStep (pk, s)).1 ≤ max pk (s + h)

theorem peak_mono (l : List Int) {pk pk' s : Int} (h : pk ≤ pk') : (l.foldl peakStep (pk, s)).1 ≤ (l.foldl peakStep (pk', s)).1 ∧ (l.foldl peakStep (pk, s)).2 = (l.foldl peakStep (pk', s)).2 := by
  induction l generalizing pk pk' s with
  | nil => exact ⟨h, rfl⟩
  | cons m l ih =>
    simp only [List.foldl_cons, peakStep]
    exact ih (by omega)
theorem Rise.append {l m : List Int} {d h d' h' H : Int} (a : Rise l d h) (b : Rise m d' h') (h1 : h ≤ H) (h2 : d + h' ≤ H) : Rise (l ++ m) (d + d') H := fun pk s => by
  rw [List.foldl_append]
  have ha := a pk s
  have hb := b (l.foldl peakStep (pk, s)).1 (l.foldl peakStep (pk, s)).2
  rw [show ((l.foldl peakStep (pk, s)).1, (l.foldl peakStep (pk, s)).2) = l.foldl peakStep (pk, s) from rfl] at hb
  rw [ha.1] at hb
  omega
theorem Rise.back {l : List Int} {h : Int} (a : Rise l 1 h) (h0 : 0 ≤ h) : Rise (negRev l) (-1) (h - 1) := fun pk s => by
  have hs : (l.foldl peakStep (pk, s - 1)).2 = s := by have := (a pk (s - 1)).1; omega
  have hb := peak_back l (max pk (s - 1 + h)) pk (s - 1) (by omega) (a pk (s - 1)).2
  rw [hs] at hb
  have hm := peak_mono (negRev l) (pk := pk) (pk' := max pk (s - 1 + h)) (s := s) (by omega)
  rw [hb] at hm
  simp only at hm
  omega
theorem Rise.nil : Rise [] 0 0 := fun pk s => by simp; omega

theorem sz_pow (k L m i : Nat) (hk : 2 ≤ k) (hm : 2 ≤ m) (hL : m ≤ k ^ (L + 1)) : sz m (min k m) i ≤ k ^ L := by
  have hpos : 1 ≤ k ^ L := Nat.pow_pos (by omega)
  by_cases h : m ≤ k
  · have e : min k m = m := by omega
    rw [e, sz, Nat.div_self (by omega), Nat.mod_self]; simpa using hpos
  · have e : min k m = k := by omega
    rw [e, sz]
    have hd := Nat.div_add_mod m k
    rw [Nat.pow_succ] at hL
    have h2 : m / k ≤ k ^ L := by
      have := Nat.div_le_div_right (c := k) hL
      rwa [Nat.mul_div_cancel _ (by omega)] at this
    by_cases hr : i < m % k
    · rw [if_pos hr]
      apply Classical.byContradiction
      intro hn
      have h3 : m / k = k ^ L := by omega
      rw [h3, Nat.mul_comm] at hd
      omega
    · rw [if_neg hr]; omega

theorem strat_rise (f k a m L : Nat) (hk : 2 ≤ k) (hm : 1 ≤ m) (hf : m ≤ f) (hL : m ≤ k ^ L) : Rise (strat f k a m) 1 ((L * (k - 1) + 1 : Nat) : Int) := by
  induction f generalizing a m L with
  | zero => omega
  | succ f ih =>
    by_cases h1 : m = 1
    · subst h1
      rw [strat, if_pos rfl]
      intro pk s
      have e : sgn ((a : Int) + 1) = 1 := by rw [sgn, if_pos (by omega)]
      have h9 : (1 : Int) ≤ ((L * (k - 1) + 1 : Nat) : Int) := Int.ofNat_le.2 (Nat.le_add_left 1 _)
      generalize ((L * (k - 1) + 1 : Nat) : Int) = t at h9 ⊢
      simp only [List.foldl_cons, List.foldl_nil, peakStep, e]
      exact ⟨trivial, by omega⟩
    · cases L with
      | zero => simp at hL; omega
      | succ L =>
        obtain ⟨p, hp⟩ : ∃ p, p = min k m := ⟨_, rfl⟩
        have hp2 : 2 ≤ p := by omega
        obtain ⟨h, hh⟩ : ∃ h : Nat, h = L * (k - 1) + 1 := ⟨_, rfl⟩
        have hH : (L + 1) * (k - 1) + 1 = h + (k - 1) := by rw [Nat.add_mul, hh]; omega
        have hpart : ∀ j, j < p → Rise (partOf f k a m j) 1 (h : Int) := fun j hj => by
          have hs := sz_half m p j hp2
          rw [hh, partOf, ← hp]
          exact ih _ _ L (sz_pos m p j (by omega) (by omega)) (by omega) (by rw [hp]; exact sz_pow k L m j hk (by omega) hL)
        have hpre : ∀ i, i ≤ p → Rise (pres (partOf f k a m) i) (i : Int) ((h + i : Nat) : Int) := fun i hi => by
          induction i with
          | zero => exact fun pk s => by simp [pres]; omega
          | succ i ihi =>
            rw [pres]
            have := (ihi (by omega)).append (hpart i (by omega)) (H := ((h + (i + 1) : Nat) : Int)) (by omega) (by omega)
            rw [show (((i + 1 : Nat) : Int)) = (i : Int) + 1 by omega]; exact this
        have hsuf : ∀ c, c < p → Rise (sufs (partOf f k a m) p c) (-(c : Int)) ((h : Int) - 1) := fun c hc => by
          induction c with
          | zero => exact fun pk s => by simp [sufs]; omega
          | succ c ihc =>
            rw [sufs]
            have := (ihc (by omega)).append ((hpart (p - 2 - c) (by omega)).back (by omega)) (H := (h : Int) - 1) (by omega) (by omega)
            rw [show (-((c + 1 : Nat) : Int)) = -(c : Int) + -1 by omega]; exact this
        -- the last part of the first half ends with p pebbles; what is taken back begins below them
        rw [strat_succ f k a m h1, ← hp, hH]
        obtain ⟨r, hr⟩ : ∃ r, p = r + 1 := ⟨p - 1, by omega⟩
        have h3 : Rise (pres (partOf f k a m) p) (p : Int) ((h + (k - 1) : Nat) : Int) := by
          rw [hr, pres]
          have := (hpre r (by omega)).append (hpart r (by omega)) (H := ((h + (k - 1) : Nat) : Int)) (by omega) (by omega)
          rw [show (((r + 1 : Nat) : Int)) = (r : Int) + 1 by omega]; exact this
        have h4 := h3.append (hsuf (p - 1) (by omega)) (H := ((h + (k - 1) : Nat) : Int)) (by omega) (by omega)
        rw [show (p : Int) + -((p - 1 : Nat) : Int) = 1 by omega] at h4
        exact h4

theorem strat_peak (n k L : Nat) (hk : 2 ≤ k) (hn : 1 ≤ n) (hL : n ≤ k ^ L) : peakOf (strat n k 0 n) ≤ ((L * (k - 1) + 1 : Nat) : Int) := by
  have := (strat_rise n k 0 n L hk hn (Nat.le_refl _) hL 0 0).2
  rw [peakOf]
  omega
end Go.Proofs.Ytpeiajmgkhajoaa
