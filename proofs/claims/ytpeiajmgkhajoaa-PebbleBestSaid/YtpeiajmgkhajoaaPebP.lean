/- Bennett's strategy, in plain Lean: no program in sight. -/
import Derived.Test.YtpeiajmgkhajoaaLib
namespace Go.Proofs.Ytpeiajmgkhajoaa
set_option linter.unusedVariables false

def negRev (l : List Int) : List Int := (l.map (fun x => - x)).reverse

theorem negRev_drop {l : List Int} {k : Nat} (h : k < l.length) : negRev (l.drop k) = negRev (l.drop (k + 1)) ++ [- nth l k] := by
  unfold negRev
  rw [List.drop_eq_getElem_cons h, List.map_cons, List.reverse_cons]; simp [nth, h]
theorem negRev_len (l : List Int) : (negRev l).length = l.length := by simp [negRev]
theorem negRev_negRev (l : List Int) : negRev (negRev l) = l := by simp [negRev, Function.comp_def]
theorem negRev_append (l m : List Int) : negRev (l ++ m) = negRev m ++ negRev l := by simp [negRev]
theorem mem_negRev {l : List Int} {x : Int} : x ∈ negRev l ↔ -x ∈ l := by
  simp only [negRev, List.mem_reverse, List.mem_map]
  constructor
  · rintro ⟨a, h, rfl⟩; simpa using h
  · intro h; exact ⟨-x, h, by simp⟩
theorem Small.negRev {l : List Int} (h : Small l) : Small (negRev l) := fun x hx => by
  have := h _ (mem_negRev.1 hx)
  omega

/-- the size of a part, and where it begins -/
def sz (m p i : Nat) : Nat := m / p + if i < m % p then 1 else 0
def offs (m p i : Nat) : Nat := i * (m / p) + min i (m % p)

theorem offs_succ (m p i : Nat) : offs m p (i + 1) = offs m p i + sz m p i := by
  unfold offs sz
  rw [Nat.succ_mul]
  split <;> omega
theorem offs_zero (m p : Nat) : offs m p 0 = 0 := by simp [offs]
theorem offs_all (m p : Nat) (hp : 0 < p) : offs m p p = m := by
  unfold offs
  have h := Nat.mod_lt m hp
  have := Nat.div_add_mod m p
  rw [Nat.min_eq_right (by omega)]; exact this
theorem offs_mono (m p : Nat) {i j : Nat} (h : i ≤ j) : offs m p i ≤ offs m p j := by
  induction j with
  | zero => obtain rfl : i = 0 := by omega
            exact Nat.le_refl _
  | succ j ih =>
    by_cases e : i = j + 1
    · rw [e]; exact Nat.le_refl _
    · have := ih (by omega); rw [offs_succ]; omega
theorem sz_pos (m p i : Nat) (hp : 0 < p) (h : p ≤ m) : 1 ≤ sz m p i := by
  have := Nat.div_pos h hp
  unfold sz; omega
theorem sz_half (m p i : Nat) (hp : 2 ≤ p) : 2 * sz m p i ≤ m + 1 := by
  unfold sz
  have h := Nat.div_add_mod m p
  have h2 : 2 * (m / p) ≤ p * (m / p) := Nat.mul_le_mul_right _ hp
  split <;> omega

def pres (g : Nat → List Int) : Nat → List Int
  | 0 => []
  | i + 1 => pres g i ++ g i
def sufs (g : Nat → List Int) (p : Nat) : Nat → List Int
  | 0 => []
  | c + 1 => sufs g p c ++ negRev (g (p - 2 - c))

/-- Bennett's strategy with branching factor k for the nodes a + 1 to a + m -/
def strat : Nat → Nat → Nat → Nat → List Int
  | 0, _, _, _ => []
  | f + 1, k, a, m => if m = 1 then [(a : Int) + 1] else
      pres (fun i => strat f k (a + offs m (min k m) i) (sz m (min k m) i)) (min k m) ++
      sufs (fun i => strat f k (a + offs m (min k m) i) (sz m (min k m) i)) (min k m) (min k m - 1)

def partOf (f k a m i : Nat) : List Int := strat f k (a + offs m (min k m) i) (sz m (min k m) i)
theorem strat_succ (f k a m : Nat) (h : m ≠ 1) : strat (f + 1) k a m = pres (partOf f k a m) (min k m) ++ sufs (partOf f k a m) (min k m) (min k m - 1) := by
  rw [strat, if_neg h]; rfl

/-- every move is of a node among a + 1 to a + m -/
def Within (a b : Nat) (l : List Int) : Prop := ∀ x ∈ l, (a : Int) + 1 ≤ x ∧ x ≤ b ∨ (a : Int) + 1 ≤ -x ∧ -x ≤ b
theorem Within.append {a b : Nat} {l m : List Int} (h : Within a b l) (h' : Within a b m) : Within a b (l ++ m) := fun x hx => by
  rcases List.mem_append.1 hx with hx | hx
  · exact h x hx
  · exact h' x hx
theorem Within.negRev {a b : Nat} {l : List Int} (h : Within a b l) : Within a b (negRev l) := fun x hx => by
  have := h _ (mem_negRev.1 hx)
  rw [Int.neg_neg] at this
  exact this.symm
theorem Within.mono {a b a' b' : Nat} {l : List Int} (h : Within a b l) (h1 : a' ≤ a) (h2 : b ≤ b') : Within a' b' l := fun x hx => by
  have := h x hx; omega
theorem Within.small {a b : Nat} {l : List Int} (h : Within a b l) (hb : b ≤ 2147483648) : Small l := fun x hx => by
  have := h x hx; omega
theorem within_pres {a b : Nat} {g : Nat → List Int} {n : Nat} (h : ∀ i, i < n → Within a b (g i)) : Within a b (pres g n) := by
  induction n with
  | zero => intro x hx; simp [pres] at hx
  | succ n ih => exact (ih fun i hi => h i (by omega)).append (h n (by omega))
theorem within_sufs {a b : Nat} {g : Nat → List Int} {p n : Nat} (h : ∀ i, i < p → Within a b (g i)) (hn : n < p) : Within a b (sufs g p n) := by
  induction n with
  | zero => intro x hx; simp [sufs] at hx
  | succ n ih => exact (ih (by omega)).append (h _ (by omega)).negRev

theorem within_strat (f k a m : Nat) (hk : 2 ≤ k) (hm : 1 ≤ m) (hf : m ≤ f) : Within a (a + m) (strat f k a m) := by
  induction f generalizing a m with
  | zero => omega
  | succ f ih =>
    by_cases h1 : m = 1
    · rw [strat, if_pos h1]; intro x hx; simp at hx; omega
    · have hp : 2 ≤ min k m := by omega
      have hpart : ∀ i, i < min k m → Within a (a + m) (partOf f k a m i) := fun i hi => by
        have hs := sz_half m (min k m) i hp
        have h2 := offs_mono m (min k m) (show i + 1 ≤ min k m by omega)
        rw [offs_succ, offs_all m _ (by omega)] at h2
        exact (ih (a + offs m (min k m) i) (sz m (min k m) i) (sz_pos _ _ _ (by omega) (by omega)) (by omega)).mono (by omega) (by omega)
      rw [strat_succ f k a m h1]
      exact (within_pres hpart).append (within_sufs hpart (by omega))

theorem pres_len (g : Nat → List Int) (b : Nat) (s : Nat → Nat) (n : Nat) (h : ∀ i, i < n → (g i).length ≤ s i * b) (o : Nat → Nat) (h0 : o 0 = 0) (ho : ∀ i, o (i + 1) = o i + s i) :
    (pres g n).length ≤ o n * b := by
  induction n with
  | zero => simp [pres]
  | succ n ih =>
    have h1 := ih fun i hi => h i (by omega)
    have h2 := h n (by omega)
    rw [pres, List.length_append, ho, Nat.add_mul]; omega
theorem sufs_len (g : Nat → List Int) (b : Nat) (s : Nat → Nat) (p c : Nat) (hc : c < p) (h : ∀ i, i < p → (g i).length ≤ s i * b) (o : Nat → Nat) (ho : ∀ i, o (i + 1) = o i + s i) :
    (sufs g p c).length + o (p - 1 - c) * b ≤ o (p - 1) * b := by
  induction c with
  | zero => simp [sufs]
  | succ c ih =>
    have h1 := ih (by omega)
    have h2 := h (p - 2 - c) (by omega)
    have e : p - 1 - c = (p - 2 - c) + 1 := by omega
    rw [e, ho, Nat.add_mul] at h1
    rw [sufs, List.length_append, negRev_len, show p - 1 - (c + 1) = p - 2 - c by omega]
    omega

theorem strat_len (f k a m : Nat) (hk : 2 ≤ k) (hm : 1 ≤ m) (hf : m ≤ f) : (strat f k a m).length ≤ m * (m * m) := by
  induction f generalizing a m with
  | zero => omega
  | succ f ih =>
    by_cases h1 : m = 1
    · rw [strat, if_pos h1, h1]; simp
    · have hp : 2 ≤ min k m := by omega
      have hb : ∀ i, i < min k m → (partOf f k a m i).length ≤ sz m (min k m) i * (((m + 1) / 2) * ((m + 1) / 2)) := fun i hi => by
        have hs := sz_half m (min k m) i hp
        refine Nat.le_trans (ih _ _ (sz_pos _ _ _ (by omega) (by omega)) (by omega)) (Nat.mul_le_mul_left _ (Nat.mul_le_mul ?_ ?_)) <;> omega
      have e1 := pres_len (partOf f k a m) (((m + 1) / 2) * ((m + 1) / 2)) (sz m (min k m)) (min k m) hb (offs m (min k m)) (offs_zero _ _) (offs_succ _ _)
      have e2 := sufs_len (partOf f k a m) (((m + 1) / 2) * ((m + 1) / 2)) (sz m (min k m)) (min k m) (min k m - 1) (by omega) hb (offs m (min k m)) (offs_succ _ _)
      rw [offs_all m _ (by omega)] at e1
      have h3 := offs_mono m (min k m) (show min k m - 1 ≤ min k m by omega)
      rw [offs_all m _ (by omega)] at h3
      have h4 := Nat.mul_le_mul_right (((m + 1) / 2) * ((m + 1) / 2)) h3
      rw [strat_succ f k a m h1, List.length_append]
      have h5 : 2 * (((m + 1) / 2) * ((m + 1) / 2)) ≤ m * m := by
        obtain ⟨q, hq | hq⟩ : ∃ q, m = 2 * q ∨ m = 2 * q + 1 := ⟨m / 2, by omega⟩
        · have : (m + 1) / 2 = q := by omega
          rw [this, hq]
          have : 2 * q * (2 * q) = 4 * (q * q) := by rw [Nat.mul_mul_mul_comm]
          rw [this]; omega
        · have : (m + 1) / 2 = q + 1 := by omega
          rw [this, hq]
          have hq1 : 1 ≤ q := by omega
          have hqq : 1 * q ≤ q * q := Nat.mul_le_mul_right _ hq1
          have e3 : (q + 1) * (q + 1) = q * q + 2 * q + 1 := by simp only [Nat.add_mul, Nat.mul_add]; omega
          have e5 : 2 * q * (2 * q) = 4 * (q * q) := by rw [Nat.mul_mul_mul_comm]
          have e4 : (2 * q + 1) * (2 * q + 1) = 2 * q * (2 * q) + 4 * q + 1 := by rw [Nat.add_mul, Nat.mul_add]; omega
          rw [e3, e4, e5]
          omega
      have h6 := Nat.mul_le_mul_left m h5
      have h7 : m * (2 * (((m + 1) / 2) * ((m + 1) / 2))) = m * (((m + 1) / 2) * ((m + 1) / 2)) + m * (((m + 1) / 2) * ((m + 1) / 2)) := by rw [← Nat.mul_add, ← Nat.two_mul]
      omega
end Go.Proofs.Ytpeiajmgkhajoaa
