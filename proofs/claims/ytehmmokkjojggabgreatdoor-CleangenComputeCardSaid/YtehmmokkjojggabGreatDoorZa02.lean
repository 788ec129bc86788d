/- Contracts and plain lemmas for the law (FunC, FunD, Keep, FunE, FunF, FunG, FunH, FunI): no statement of the seat is proved here. -/
import Derived.Test.YtehmmokkjojggabGreatDoorZa01
import Derived.StillTailTactics
import Derived.Laws.EntriesVeiled
/- Walks: form, formed, measure. -/
namespace Go.Proofs.YtehmmokkjojggabGreatDoor
set_option linter.unusedVariables false
open Go.RowKit

theorem size_nil {s : ByteArray} (h : s.size = 0) : s = ByteArray.empty := by
  cases s with
  | mk d =>
    have : d = #[] := Array.eq_empty_of_size_eq_zero h
    subst this; rfl
theorem toList_ne {s : ByteArray} (h : s.size ≠ 0) : s.toList ≠ [] := by
  intro e
  apply h
  rw [ByteArray.toList_eq] at e
  have : s.data.toList.length = 0 := by rw [e]; rfl
  simpa using this

theorem ibeq (m c : Int) : (m == c) = decide (m = c) := by rw [Bool.eq_iff_iff]; simp
theorem isEmpty_ne {s : ByteArray} (h : s.size ≠ 0) : s.toList.isEmpty = false ∧ (!s.toList.isEmpty) = true := by
  have := toList_ne h
  cases e : s.toList with
  | nil => exact absurd e this
  | cons a l => exact ⟨rfl, rfl⟩

set_option maxRecDepth 100000 in
set_option maxHeartbeats 3200000 in
theorem form_any (v : Value) (n : Nd) (A : Nat → Prop) (w : World) (hv : NdAt A w v n) :
    Calls Tryz.prog 120 #[v] w fun e w' => e = .returned (.bool (formB n.kind n.num n.name n.kids.length)) ∧ Below w.heap.size w w' := by
  obtain ⟨hok, hlen, ka, kc, rfl, hk⟩ := hv.open
  obtain ⟨k, num, name, kids⟩ := n
  obtain ⟨⟨hk0, hk1⟩, hn64, hs⟩ := hok
  simp only [Nd.kind, Nd.num, Nd.name, Nd.kids] at *
  unfold maxLen at hlen
  clear hv hk
  generalize kids.length = m at *
  have hA : Below w.heap.size w (w.alloc (.cells #[.int .u8 k, .int .i64 num, .string name, .slice ka m kc] 35)) := (Below.refl _ _).alloc (Nat.le_refl _) _
  by_cases h80 : k = 80
  · subst h80
    by_cases hs0 : name.size = 0
    · obtain rfl := size_nil hs0
      clear hs0
      go_enter Tryz.func120, Tryz.ntmps120
      go_wp2
      all_goals
        go_ret
        refine ⟨?_, hA⟩
        first | (simp [formB, *]; done) | (simp [formB, *]; omega) | (simp [formB, ibeq, *]; done) | (simp [formB, ibeq, *]; omega)
    · obtain ⟨hs1, hs2⟩ := isEmpty_ne hs0
      go_enter Tryz.func120, Tryz.ntmps120
      go_wp2
      all_goals
        go_ret
        refine ⟨?_, hA⟩
        first | (simp [formB, *]; done) | (simp [formB, *]; omega) | (simp [formB, ibeq, *]; done) | (simp [formB, ibeq, *]; omega)
  · have d80 : (k == 80) = false := by simpa using h80
    by_cases h81 : k = 81
    · subst h81
      by_cases hnum : num = 0
      · subst hnum
        go_enter Tryz.func120, Tryz.ntmps120
        go_wp2
        all_goals
          go_ret
          refine ⟨?_, hA⟩
          first | (simp [formB, *]; done) | (simp [formB, *]; omega) | (simp [formB, ibeq, *]; done) | (simp [formB, ibeq, *]; omega)
      · have d0 : (num == 0) = false := by simpa using hnum
        go_enter Tryz.func120, Tryz.ntmps120
        go_wp2
        all_goals
          go_ret
          refine ⟨?_, hA⟩
          first | (simp [formB, *]; done) | (simp [formB, *]; omega) | (simp [formB, ibeq, *]; done) | (simp [formB, ibeq, *]; omega)
    · have d81 : (k == 81) = false := by simpa using h81
      by_cases h82 : k = 82
      · subst h82
        by_cases hs0 : name.size = 0
        · obtain rfl := size_nil hs0
          clear hs0
          go_enter Tryz.func120, Tryz.ntmps120
          go_wp2
          all_goals
            go_ret
            refine ⟨?_, hA⟩
            first | (simp [formB, *]; done) | (simp [formB, *]; omega) | (simp [formB, ibeq, *]; done) | (simp [formB, ibeq, *]; omega)
        · obtain ⟨hs1, hs2⟩ := isEmpty_ne hs0
          go_enter Tryz.func120, Tryz.ntmps120
          go_wp2
          all_goals
            go_ret
            refine ⟨?_, hA⟩
            first | (simp [formB, *]; done) | (simp [formB, *]; omega) | (simp [formB, ibeq, *]; done) | (simp [formB, ibeq, *]; omega)
      · have d82 : (k == 82) = false := by simpa using h82
        by_cases h84 : k = 84
        · subst h84
          by_cases hnum : num = 0
          · subst hnum
            go_enter Tryz.func120, Tryz.ntmps120
            go_wp2_with fail
            refine (isName_any name _ hs).mono ?_
            rintro e w1 ⟨rfl, hb1⟩
            have hB1 : Below w.heap.size w w1 := hA.trans (hb1.mono (by simp))
            cases hnm : nameB name
            all_goals
              go_wp2
              go_ret
              refine ⟨?_, hB1⟩
              first | (simp [formB, hnm]; done) | (simp [formB, ibeq, hnm]; omega)
          · have d0 : (num == 0) = false := by simpa using hnum
            go_enter Tryz.func120, Tryz.ntmps120
            go_wp2
            all_goals
              go_ret
              refine ⟨?_, hA⟩
              first | (simp [formB, *]; done) | (simp [formB, *]; omega) | (simp [formB, ibeq, *]; done) | (simp [formB, ibeq, *]; omega)
        · have d84 : (k == 84) = false := by simpa using h84
          by_cases h85 : k = 85
          · subst h85
            go_enter Tryz.func120, Tryz.ntmps120
            go_wp2
            all_goals
              go_ret
              refine ⟨?_, hA⟩
              first | (simp [formB, *]; done) | (simp [formB, *]; omega) | (simp [formB, ibeq, *]; done) | (simp [formB, ibeq, *]; omega)
          · have d85 : (k == 85) = false := by simpa using h85
            by_cases hbad : num ≠ 0 ∨ name.size ≠ 0
            · have hf : formB k num name m = false := by simp only [formB, if_neg h80, if_neg h81, if_neg h82, if_neg h84, if_neg h85, if_pos hbad]
              have HF := Lib.hid hf
              clear hf
              by_cases hnum : num = 0
              · have hs0 : name.size ≠ 0 := by rcases hbad with h | h; exact absurd hnum h; exact h
                subst hnum
                obtain ⟨hs1, hs2⟩ := isEmpty_ne hs0
                clear hbad
                go_enter Tryz.func120, Tryz.ntmps120
                go_wp2
                go_ret
                rw [HF.out]
                exact ⟨rfl, hA⟩
              · have d0 : (num != 0) = true := by simpa using hnum
                clear hbad
                go_enter Tryz.func120, Tryz.ntmps120
                go_wp2
                go_ret
                rw [HF.out]
                exact ⟨rfl, hA⟩
            · have hnum : num = 0 := by apply Classical.byContradiction; intro h; exact hbad (.inl h)
              have hs0 : name.size = 0 := by apply Classical.byContradiction; intro h; exact hbad (.inr h)
              subst hnum
              obtain rfl := size_nil hs0
              clear hs0 hbad
              by_cases h86 : k = 86
              · subst h86
                go_enter Tryz.func120, Tryz.ntmps120
                go_wp2
                all_goals
                  go_ret
                  refine ⟨?_, hA⟩
                  first | (simp [formB, *]; done) | (simp [formB, *]; omega) | (simp [formB, ibeq, *]; done) | (simp [formB, ibeq, *]; omega)
              · have d86 : (k == 86) = false := by simpa using h86
                by_cases h88 : k = 88
                · subst h88
                  go_enter Tryz.func120, Tryz.ntmps120
                  go_wp2
                  all_goals
                    go_ret
                    refine ⟨?_, hA⟩
                    first | (simp [formB, *]; done) | (simp [formB, *]; omega) | (simp [formB, ibeq, *]; done) | (simp [formB, ibeq, *]; omega)
                · have d88 : (k == 88) = false := by simpa using h88
                  by_cases h89 : k = 89
                  · subst h89
                    go_enter Tryz.func120, Tryz.ntmps120
                    go_wp2
                    all_goals
                      go_ret
                      refine ⟨?_, hA⟩
                      first | (simp [formB, *]; done) | (simp [formB, *]; omega) | (simp [formB, ibeq, *]; done) | (simp [formB, ibeq, *]; omega)
                  · have d89 : (k == 89) = false := by simpa using h89
                    by_cases h90 : k = 90
                    · subst h90
                      go_enter Tryz.func120, Tryz.ntmps120
                      go_wp2
                      all_goals
                        go_ret
                        refine ⟨?_, hA⟩
                        first | (simp [formB, *]; done) | (simp [formB, *]; omega) | (simp [formB, ibeq, *]; done) | (simp [formB, ibeq, *]; omega)
                    · have d90 : (k == 90) = false := by simpa using h90
                      by_cases h87 : k = 87
                      · subst h87
                        go_enter Tryz.func120, Tryz.ntmps120
                        go_wp2
                        all_goals
                          go_ret
                          refine ⟨?_, hA⟩
                          first | (simp [formB, *]; done) | (simp [formB, *]; omega) | (simp [formB, ibeq, *]; done) | (simp [formB, ibeq, *]; omega)
                      · have d87 : (k == 87) = false := by simpa using h87
                        by_cases h83 : k = 83
                        · subst h83
                          go_enter Tryz.func120, Tryz.ntmps120
                          go_wp2
                          all_goals
                            go_ret
                            refine ⟨?_, hA⟩
                            first | (simp [formB, *]; done) | (simp [formB, *]; omega) | (simp [formB, ibeq, *]; done) | (simp [formB, ibeq, *]; omega)
                        · have d83 : (k == 83) = false := by simpa using h83
                          go_enter Tryz.func120, Tryz.ntmps120
                          go_wp2
                          all_goals
                            go_ret
                            refine ⟨?_, hA⟩
                            first | (simp [formB, *]; done) | (simp [formB, *]; omega) | (simp [formB, ibeq, *]; done) | (simp [formB, ibeq, *]; omega)
end Go.Proofs.YtehmmokkjojggabGreatDoor
/- Walks: formed, measure. -/
namespace Go.Proofs.YtehmmokkjojggabGreatDoor
set_option linter.unusedVariables false
open Go.RowKit

theorem size_pos (n : Nd) : 1 ≤ sizeN n := by cases n; simp [sizeN]
theorem size_at : ∀ (l : List Nd) (j : Nat), j < l.length → sizeN (at' l j) ≤ sizeL l
  | n :: r, 0, _ => by show sizeN n ≤ _; simp [sizeL]
  | n :: r, j + 1, h => by
    have := size_at r j (by simpa using h)
    show sizeN (at' r j) ≤ _
    simp [sizeL]; omega
theorem size_kid (n : Nd) (j : Nat) (h : j < n.kids.length) : sizeN (at' n.kids j) < sizeN n := by
  obtain ⟨k, num, name, kids⟩ := n
  have := size_at kids j h
  simp [sizeN, Nd.kids] at *; omega

theorem formedL_iff : ∀ (l : List Nd), formedL l = true ↔ ∀ j, j < l.length → formedN (at' l j) = true
  | [] => by simp [formedL]
  | n :: r => by
    rw [formedL, Bool.and_eq_true, formedL_iff r]
    constructor
    · rintro ⟨h1, h2⟩ j hj
      match j with
      | 0 => exact h1
      | j + 1 => exact h2 j (by simpa using hj)
    · intro h
      exact ⟨h 0 (by simp), fun j hj => h (j + 1) (by simpa using hj)⟩
theorem formedN_eq (n : Nd) : formedN n = (formB n.kind n.num n.name n.kids.length && formedL n.kids) := by cases n; rfl

set_option maxRecDepth 100000 in
set_option maxHeartbeats 1600000 in
theorem formed_upto (m : Nat) : ∀ (n : Nd) (v : Value) (A : Nat → Prop) (w : World), sizeN n ≤ m → NdAt A w v n →
    Calls Tryz.prog 92 #[v] w fun e w' => e = .returned (.bool (formedN n)) ∧ Below w.heap.size w w' := by
  induction m with
  | zero => intro n v A w hm; have := size_pos n; omega
  | succ m ih =>
    intro n v A w hm hv
    have IH := Lib.hid ih
    clear ih
    obtain ⟨hok, hlen, ka, kc, rfl, hk⟩ := hv.open
    have HS : Hid (∀ j, j < n.kids.length → sizeN (at' n.kids j) ≤ m) := Lib.hid (fun j hj => by have := size_kid n j hj; omega)
    have HE := Lib.hid (formedN_eq n)
    unfold maxLen at hlen
    have hA : Below w.heap.size w (w.alloc (.cells #[.int .u8 n.kind, .int .i64 n.num, .string n.name, .slice ka n.kids.length kc] 35)) := (Below.refl _ _).alloc (Nat.le_refl _) _
    have hvA := hv.stays (Stays.of_below hA)
    have hkA := hk.stays (Stays.of_below hA)
    cases hfb : formB n.kind n.num n.name n.kids.length with
    | false =>
      have HF := Lib.hid hfb
      clear hfb
      go_enter Tryz.func92, Tryz.ntmps92
      go_wp2_with fail
      refine (form_any _ n A _ hvA).mono ?_
      rintro e w1 ⟨rfl, hb1⟩
      rw [HF.out]
      go_wp2
      go_ret
      rw [HE.out, HF.out]
      exact ⟨rfl, hA.trans (hb1.mono (by simp))⟩
    | true =>
      have HF := Lib.hid hfb
      clear hfb
      go_enter Tryz.func92, Tryz.ntmps92
      go_wp2_with fail
      refine (form_any _ n A _ hvA).mono ?_
      rintro e w1 ⟨rfl, hb1⟩
      rw [HF.out]
      have hc3 : w1.cell? ⟨w.heap.size, 3, none⟩ = some (.slice ka n.kids.length kc) := (hb1.cell (p := ⟨w.heap.size, 3, none⟩) (by simp)).trans (by simp)
      have hB1 : Below w.heap.size w w1 := hA.trans (hb1.mono (by simp))
      clear hv hvA hkA hA hb1
      go_wp2
      go_loopw [11] (fun i wr => ∃ k : Nat, k ≤ n.kids.length ∧ i = .int .i64 k ∧ (∀ j, j < k → formedN (at' n.kids j) = true) ∧ Below w.heap.size w wr) (fun i _ => n.kids.length - (intOf i).toNat)
      case atStart => exact ⟨0, Nat.zero_le _, rfl, fun j hj => absurd hj (by omega), hB1⟩
      case round =>
        obtain ⟨k, hkk, rfl, hall, hbl⟩ := hrel
        have HA := Lib.hid hall
        clear hall
        have hz := hbl.size
        by_cases hlt : k < n.kids.length
        · obtain ⟨b, off, cap, ka', kc', he, hb, _, _, c0, c1, c2, c3, hnd⟩ := (hk.stays (Stays.of_below hbl)).at hlt
          simp only [Value.slice.injEq] at he
          obtain ⟨rfl, -, rfl⟩ := he
          have hA2 : Below wr.heap.size wr (wr.alloc (.cells #[.int .u8 (at' n.kids k).kind, .int .i64 (at' n.kids k).num, .string (at' n.kids k).name, .slice ka' (at' n.kids k).kids.length kc'] 35)) := (Below.refl _ _).alloc (Nat.le_refl _) _
          go_wp2_with fail
          refine (IH.out (at' n.kids k) _ A _ (HS.out k hlt) (hnd.stays (Stays.of_below hA2))).mono ?_
          rintro e w2 ⟨rfl, hb2⟩
          have hB2 : Below w.heap.size w w2 := hbl.trans ((hA2.trans (hb2.mono (by simp))).mono hz)
          cases hfk : formedN (at' n.kids k) with
          | false =>
            have HN := Lib.hid (show formedN n = false by
              rw [HE.out, HF.out, Bool.true_and]
              cases e : formedL n.kids with
              | false => rfl
              | true => rw [formedL_iff] at e; rw [e k hlt] at hfk; exact absurd hfk (by simp))
            clear hfk
            go_wp2
            go_ret
            rw [HN.out]
            exact ⟨rfl, hB2⟩
          | true =>
            have HK := Lib.hid hfk
            clear hfk
            go_wp2
            go_roundw
            case rel => exact ⟨k + 1, by omega, by go_num, fun j hj => (by
              by_cases e : j = k
              · rw [e]; exact HK.out
              · exact HA.out j (by omega)), hB2⟩
            case measure => simp [intOf]; omega
        · have HN := Lib.hid (show formedN n = true by rw [HE.out, HF.out, Bool.true_and, formedL_iff]; exact fun j hj => HA.out j (by omega))
          go_wp2
          go_ret
          rw [HN.out]
          exact ⟨rfl, hbl⟩

theorem formed_any (n : Nd) (v : Value) (A : Nat → Prop) (w : World) (hv : NdAt A w v n) :
    Calls Tryz.prog 92 #[v] w fun e w' => e = .returned (.bool (formedN n)) ∧ Below w.heap.size w w' := formed_upto (sizeN n) n v A w (Nat.le_refl _) hv

theorem sizeL_take : ∀ (l : List Nd) (k : Nat), k < l.length → sizeL (l.take (k + 1)) = sizeL (l.take k) + sizeN (at' l k)
  | n :: r, 0, _ => by show sizeN n + 0 = 0 + sizeN n; omega
  | n :: r, k + 1, h => by
    have := sizeL_take r k (by simpa using h)
    simp only [List.take_succ_cons, sizeL, this]
    show _ = _ + sizeN (at' r k)
    omega
theorem depthL_take : ∀ (l : List Nd) (k : Nat), k < l.length → depthL (l.take (k + 1)) = max (depthL (l.take k)) (depthN (at' l k))
  | n :: r, 0, _ => by show max (depthN n) 0 = max 0 (depthN n); omega
  | n :: r, k + 1, h => by
    have := depthL_take r k (by simpa using h)
    simp only [List.take_succ_cons, depthL, this]
    show _ = max _ (depthN (at' r k))
    omega
mutual
theorem depth_le : ∀ (n : Nd), depthN n ≤ sizeN n
  | .mk k num name kids => by have := depthL_le kids; simp [depthN, sizeN]; omega
theorem depthL_le : ∀ (l : List Nd), depthL l ≤ sizeL l
  | [] => by simp [depthL]
  | n :: r => by have := depth_le n; have := depthL_le r; simp [depthL, sizeL]; omega
end
theorem sizeL_take_le : ∀ (l : List Nd) (k : Nat), sizeL (l.take k) ≤ sizeL l
  | [], k => by simp [sizeL]
  | n :: r, 0 => by simp [sizeL]
  | n :: r, k + 1 => by have := sizeL_take_le r k; simp [sizeL]; omega
theorem sizeN_eq (n : Nd) : sizeN n = sizeL n.kids + 1 := by cases n; rfl
theorem depthN_eq (n : Nd) : depthN n = depthL n.kids + 1 := by cases n; rfl

theorem max_eq (a b : Nat) : Value.int .i64 (if a < b then (b : Int) else (a : Int)) = .int .i64 ((max a b : Nat) : Int) := by
  congr 1; split <;> omega

set_option maxRecDepth 100000 in
set_option maxHeartbeats 1600000 in
theorem measure_upto (m : Nat) : ∀ (n : Nd) (v : Value) (A : Nat → Prop) (w : World), sizeN n ≤ m → sizeN n ≤ 1000000 → NdAt A w v n →
    Calls Tryz.prog 93 #[v] w fun e w' => e = .returned (.tuple #[.int .i64 (sizeN n), .int .i64 (depthN n)]) ∧ Below w.heap.size w w' := by
  induction m with
  | zero => intro n v A w hm; have := size_pos n; omega
  | succ m ih =>
    intro n v A w hm hmil hv
    have IH := Lib.hid ih
    clear ih
    obtain ⟨hok, hlen, ka, kc, rfl, hk⟩ := hv.open
    have HS : Hid (∀ j, j < n.kids.length → sizeN (at' n.kids j) ≤ m ∧ sizeN (at' n.kids j) ≤ 1000000) := Lib.hid (fun j hj => by have := size_kid n j hj; omega)
    have HE := Lib.hid (sizeN_eq n)
    have HD := Lib.hid (depthN_eq n)
    have hsz : sizeL n.kids ≤ 1000000 := by have := HE.out; omega
    clear hmil hm
    unfold maxLen at hlen
    have hA : Below w.heap.size w (w.alloc (.cells #[.int .u8 n.kind, .int .i64 n.num, .string n.name, .slice ka n.kids.length kc] 35)) := (Below.refl _ _).alloc (Nat.le_refl _) _
    clear hv
    go_enter Tryz.func93, Tryz.ntmps93
    go_wp2
    go_loopw [2, 3, 11] (fun s d i wr => ∃ k : Nat, k ≤ n.kids.length ∧ i = .int .i64 k ∧ s = .int .i64 (sizeL (n.kids.take k)) ∧ d = .int .i64 (depthL (n.kids.take k)) ∧ Below w.heap.size w wr) (fun _ _ i _ => n.kids.length - (intOf i).toNat)
    case atStart => exact ⟨0, Nat.zero_le _, rfl, rfl, rfl, hA⟩
    case round =>
      obtain ⟨k, hkk, rfl, rfl, rfl, hbl⟩ := hrel
      have hz := hbl.size
      have hs1 := sizeL_take_le n.kids k
      have hd1 := depthL_le (n.kids.take k)
      by_cases hlt : k < n.kids.length
      · obtain ⟨b, off, cap, ka', kc', he, hb, _, _, c0, c1, c2, c3, hnd⟩ := (hk.stays (Stays.of_below hbl)).at hlt
        simp only [Value.slice.injEq] at he
        obtain ⟨rfl, -, rfl⟩ := he
        have hA2 : Below wr.heap.size wr (wr.alloc (.cells #[.int .u8 (at' n.kids k).kind, .int .i64 (at' n.kids k).num, .string (at' n.kids k).name, .slice ka' (at' n.kids k).kids.length kc'] 35)) := (Below.refl _ _).alloc (Nat.le_refl _) _
        have HT := Lib.hid (sizeL_take n.kids k hlt)
        have HU := Lib.hid (depthL_take n.kids k hlt)
        have hsk := (HS.out k hlt).2
        have hdk := depth_le (at' n.kids k)
        go_wp2_with fail
        refine (IH.out (at' n.kids k) _ A _ (HS.out k hlt).1 hsk (hnd.stays (Stays.of_below hA2))).mono ?_
        rintro e w2 ⟨rfl, hb2⟩
        have hB2 : Below w.heap.size w w2 := hbl.trans ((hA2.trans (hb2.mono (by simp))).mono hz)
        go_wp2
        go_roundw
        case rel => exact ⟨k + 1, by omega, by go_num, by rw [HT.out]; go_num, by rw [HU.out]; exact max_eq _ _, hB2⟩
        case measure => simp [intOf]; omega
      · obtain rfl : k = n.kids.length := by omega
        rw [List.take_length] at *
        go_wp2
        go_ret2
        rw [HE.out, HD.out]
        exact ⟨by go_num, hbl⟩
end Go.Proofs.YtehmmokkjojggabGreatDoor
/- What a call leaves alone: all blocks but those of a set. -/
namespace Go.Proofs.YtehmmokkjojggabGreatDoor
set_option linter.unusedVariables false
open Go.RowKit

/-- all that lay in the world stays, but for the blocks of a set -/
structure Keeps (w w' : World) (S : Nat → Prop) : Prop where
  os : w'.os = w.os
  tape : w'.tape = w.tape
  output : w'.output = w.output
  size : w.heap.size ≤ w'.heap.size
  block : ∀ k, k < w.heap.size → ¬ S k → w'.heap[k]? = w.heap[k]?

/-- what is new is younger -/
def Grew (w : World) (S S' : Nat → Prop) : Prop := ∀ k, S' k → S k ∨ w.heap.size ≤ k

theorem Keeps.mono {w w' : World} {S T : Nat → Prop} (h : Keeps w w' S) (hs : ∀ k, S k → T k) : Keeps w w' T := ⟨h.os, h.tape, h.output, h.size, fun k hk hn => h.block k hk fun e => hn (hs k e)⟩
theorem Keeps.refl (w : World) (S : Nat → Prop) : Keeps w w S := ⟨rfl, rfl, rfl, Nat.le_refl _, fun _ _ _ => rfl⟩
theorem Keeps.trans {w w1 w2 : World} {S S' : Nat → Prop} (h : Keeps w w1 S) (h' : Keeps w1 w2 S') (hg : Grew w S S') : Keeps w w2 S :=
  ⟨h'.os.trans h.os, h'.tape.trans h.tape, h'.output.trans h.output, Nat.le_trans h.size h'.size, fun k hk hn => (h'.block k (Nat.lt_of_lt_of_le hk h.size) fun e => by
    rcases hg k e with e | e
    · exact hn e
    · omega).trans (h.block k hk hn)⟩
theorem Keeps.same {w w1 w2 : World} {S : Nat → Prop} (h : Keeps w w1 S) (h' : Keeps w1 w2 S) : Keeps w w2 S := h.trans h' (fun _ e => .inl e)
theorem Keeps.of_below {w w' : World} (S : Nat → Prop) (h : Below w.heap.size w w') : Keeps w w' S := ⟨h.os, h.tape, h.output, h.size, fun k hk _ => h.block k hk⟩
theorem Keeps.of_grown {w w' : World} {S : Nat → Prop} {row : Option Nat} (h : w.grownBy w' row) (hr : ∀ k, row = some k → S k ∨ w.heap.size ≤ k) : Keeps w w' S :=
  ⟨h.os, h.tape, h.output, h.size, fun k hk hn => h.block k hk fun e => by
    rcases hr k e.symm with h | h
    · exact hn h
    · omega⟩
theorem Keeps.below {w w' : World} {S : Nat → Prop} {B : Nat} (h : Keeps w w' S) (hs : ∀ k, S k → B ≤ k) (hB : B ≤ w.heap.size) : Below B w w' :=
  ⟨h.os, h.tape, h.output, h.size, fun k hk => h.block k (by omega) fun e => by have := hs k e; omega⟩
theorem Keeps.cell {w w' : World} {S : Nat → Prop} (h : Keeps w w' S) {p : Addr} (hp : p.block < w.heap.size) (hn : ¬ S p.block) : w'.cell? p = w.cell? p := by simp only [World.cell?, h.block p.block hp hn]
theorem Keeps.frozen {w w' : World} {S : Nat → Prop} (h : Keeps w w' S) {p : Addr} (hp : p.block < w.heap.size) (hn : ¬ S p.block) : w'.frozen? p = w.frozen? p := by simp only [World.frozen?, h.block p.block hp hn]
theorem Keeps.alloc {w w' : World} {S : Nat → Prop} (h : Keeps w w' S) (o : Obj) : Keeps w (w'.alloc o) S := h.trans (Keeps.of_below (fun _ => False) ((Below.refl _ _).alloc (Nat.le_refl _) _)) (fun _ e => e.elim)
theorem Keeps.drew {w w' : World} {S : Nat → Prop} (h : Keeps w w' S) (n : Nat) : Keeps w (w'.drewN n) S := ⟨h.os, h.tape, h.output, h.size, h.block⟩
/-- data outside of the set stay -/
theorem Keeps.stays {A : Nat → Prop} {w w' : World} {S : Nat → Prop} (h : Keeps w w' S) (hd : ∀ k, A k → k < w.heap.size → ¬ S k) : Stays A A w w' := ⟨h.size, fun b hb ha => ⟨h.block b hb (hd b ha hb), ha⟩⟩
theorem Keeps.smap {P : Program} {kt : TypeId} {w w' : World} {b N : Nat} {m : ByteArray → Option Value} {S : Nat → Prop} (h : Keeps w w' S) (hm : SMapLe P kt w b m N) (hn : ¬ S b) : SMapLe P kt w' b m N := hm.same (h.block b hm.lt hn)
theorem row_keeps {w w' : World} {base e size n : Nat} {v : Value} {xs : List Value} {S : Nat → Prop} (h : w.ownsRow base e size v n xs) (hk : Keeps w w' S) (hs : ∀ k, v.ownBlock = some k → ¬ S k) : w'.ownsRow base e size v n xs := by
  refine ⟨h.1, ?_⟩
  rcases h.2 with ⟨rfl, hn⟩ | ⟨g, cap, cur, rfl, hbg, hg, hrest⟩
  · exact .inl ⟨rfl, hn⟩
  · refine .inr ⟨g, cap, cur, rfl, hbg, ?_, hrest⟩
    have hgl : g < w.heap.size := by rw [Array.getElem?_eq_some_iff] at hg; exact hg.1
    exact (hk.block g hgl (hs g rfl)).trans hg

theorem at_new0 (w : World) (x : Obj) : (w.alloc x).heap[w.heap.size]? = some x := heap_alloc_new w x
theorem at_new (w : World) (x y : Obj) : ((w.alloc x).alloc y).heap[w.heap.size + 1]? = some y := by
  have := heap_alloc_new (w.alloc x) y
  simpa using this
theorem at_new2 (w : World) (x y z : Obj) : (((w.alloc x).alloc y).alloc z).heap[w.heap.size + 2]? = some z := by
  have := heap_alloc_new ((w.alloc x).alloc y) z
  simpa using this
theorem at_mid (w : World) (x y z : Obj) : (((w.alloc x).alloc y).alloc z).heap[w.heap.size + 1]? = some y := by
  rw [Below.heap_alloc _ _ _ (by simp)]; exact at_new w x y
end Go.Proofs.YtehmmokkjojggabGreatDoor
/- Walks: slices.Equal at bools, parameters, reach, result. -/
namespace Go.Proofs.YtehmmokkjojggabGreatDoor
set_option linter.unusedVariables false
open Go.RowKit

theorem TB : RowT Tryz.prog 155 4 (.bool false) 1 1 := ⟨Tryz.underlying155, by kernel_rfl⟩

/-- a slice of bools -/
def BoolsAt (w : World) (v : Value) (l : List Bool) : Prop :=
  l.length ≤ maxLen ∧ ∃ a cap, v = .slice a l.length cap ∧ (0 < l.length → ∃ b off, a = some ⟨b, off, none⟩ ∧ b < w.heap.size ∧ ∀ j, j < l.length → w.cell? ⟨b, off + j, none⟩ = some (.bool (at' l j)))
theorem BoolsAt.below {w w' : World} {v : Value} {l : List Bool} (h : BoolsAt w v l) (hb : Below w.heap.size w w') : BoolsAt w' v l := by
  obtain ⟨h1, a, cap, rfl, h3⟩ := h
  refine ⟨h1, a, cap, rfl, fun hl => ?_⟩
  obtain ⟨b, off, rfl, hlt, hc⟩ := h3 hl
  exact ⟨b, off, rfl, Nat.lt_of_lt_of_le hlt hb.size, fun j hj => (hb.cell (p := ⟨b, off + j, none⟩) hlt).trans (hc j hj)⟩
theorem BoolsAt.form {w : World} {v : Value} {l : List Bool} (h : BoolsAt w v l) : ∃ a c, v = .slice a l.length c := by
  obtain ⟨_, a, c, h, _⟩ := h; exact ⟨a, c, h⟩
/-- bools that the call laid out -/
def RowB (w : World) (base : Nat) (v : Value) (l : List Bool) : Prop := l.length ≤ 100000 ∧ w.ownsRow base 4 1 v l.length (l.map Value.bool)
theorem RowB.bools {w : World} {base : Nat} {v : Value} {l : List Bool} (h : RowB w base v l) : BoolsAt w v l := by
  obtain ⟨h1, h3⟩ := h
  have h3' := h3
  obtain ⟨_, ⟨rfl, hn⟩ | ⟨g, cap, cur, rfl, hg, hh, hn, hm, hs, ht⟩⟩ := h3
  · exact ⟨by unfold maxLen; omega, none, 0, by rw [hn], fun h => absurd h (by omega)⟩
  · refine ⟨by unfold maxLen; omega, _, cap, rfl, fun _ => ⟨g, 0, rfl, (h3'.lt g rfl).2, fun j hj => ?_⟩⟩
    rw [Nat.zero_add, h3'.cellAt j (by omega)]
    simp [at_eq hj, hj]
theorem RowB.nil (w : World) (base : Nat) : RowB w base (.slice none 0 0) [] := ⟨by simp, World.ownsRow_nil _ _ _ _⟩
theorem rowB_lit {W : World} {g base : Nat} (l : List Bool) (h : l.length ≤ 100) (hb : base ≤ g) (hh : W.heap[g]? = some (.cells (l.map Value.bool).toArray 4 (0, 0))) :
    RowB W base (.slice (some ⟨g, 0, none⟩) l.length l.length) l := by
  refine ⟨by omega, by simp, .inr ⟨g, l.length, (l.map Value.bool).toArray, rfl, hb, hh, Nat.le_refl _, by unfold maxLen; omega, by simp, ?_⟩⟩
  rw [List.take_of_length_le (by simp)]

theorem eq_of_at (l m : List Bool) (hl : l.length = m.length) (h : ∀ j, j < l.length → at' l j = at' m j) : l = m := by
  apply List.ext_getElem hl
  intro i h1 h2
  have := h i h1
  rwa [at_eq h1, at_eq h2] at this

set_option maxHeartbeats 800000 in
theorem equalB_any (v u : Value) (l m : List Bool) (w : World) (hv : BoolsAt w v l) (hu : BoolsAt w u m) :
    Calls Tryz.prog 135 #[v, u] w fun e w' => e = .returned (.bool (decide (l = m))) ∧ Below w.heap.size w w' := by
  obtain ⟨hlen, a, cap, rfl, hcell⟩ := hv
  obtain ⟨hlen', a', cap', rfl, hcell'⟩ := hu
  unfold maxLen at hlen hlen'
  by_cases hne : l.length = m.length
  · have hq : ((l.length : Int) != (m.length : Int)) = false := by simp [hne]
    have HN := Lib.hid hne
    clear hne
    go_enter Tryz.func135, Tryz.ntmps135
    go_wp2
    go_loopw [13, 5] (fun i _ wr => ∃ k : Nat, k ≤ l.length ∧ i = .int .i64 k ∧ (∀ j, j < k → at' l j = at' m j) ∧ Below w.heap.size w wr) (fun i _ _ => l.length - (intOf i).toNat)
    case atStart => exact ⟨0, Nat.zero_le _, rfl, fun j hj => absurd hj (by omega), Below.refl _ _⟩
    case round =>
      obtain ⟨k, hk, rfl, hsame, hbl⟩ := hrel
      have HS := Lib.hid hsame
      clear hsame
      by_cases hlt : k < l.length
      · have hlt' : k < m.length := by have := HN.out; omega
        obtain ⟨b, off, rfl, hb, hc⟩ := hcell (by omega)
        obtain ⟨b', off', rfl, hb', hc'⟩ := hcell' (by omega)
        have hx : wr.cell? ⟨b, off + k, none⟩ = some (.bool (at' l k)) := (hbl.cell (by exact hb)).trans (hc k hlt)
        have hx' : wr.cell? ⟨b', off' + k, none⟩ = some (.bool (at' m k)) := (hbl.cell (by exact hb')).trans (hc' k hlt')
        clear hc hc' hcell hcell'
        by_cases heq : at' l k = at' m k
        · have he : (!(at' l k == at' m k)) = false := by simp [heq]
          have HE := Lib.hid heq
          clear heq
          go_wp2
          go_quiet (fail)
          go_wp2
          go_roundw
          case rel => exact ⟨k + 1, by omega, by go_num, fun j hj => (by
            by_cases e : j = k
            · rw [e]; exact HE.out
            · exact HS.out j (by omega)), below_drewN hbl _⟩
          case measure => simp [intOf]; omega
        · have he : (!(at' l k == at' m k)) = true := by simp [heq]
          have HQ := Lib.hid heq
          clear heq
          go_wp2
          go_quiet (fail)
          go_wp2
          go_ret
          have hd : decide (l = m) = false := decide_eq_false (fun h => HQ.out (by rw [h]))
          exact ⟨by rw [hd]; rfl, below_drewN hbl _⟩
      · go_wp2
        go_ret
        have hd : decide (l = m) = true := decide_eq_true (eq_of_at l m HN.out (fun j hj => HS.out j (by omega)))
        exact ⟨by rw [hd]; rfl, hbl⟩
  · have hq : ((l.length : Int) != (m.length : Int)) = true := by simp; omega
    go_enter Tryz.func135, Tryz.ntmps135
    go_wp2
    go_ret
    have hd : decide (l = m) = false := decide_eq_false (fun h => hne (by rw [h]))
    exact ⟨by rw [hd]; rfl, Below.refl _ _⟩

/-- how many names there are -/
def count : List ByteArray → Nat
  | [] => 0
  | x :: r => if inB r x then count r else count r + 1
theorem count_le (l : List ByteArray) : count l ≤ l.length := by
  induction l with
  | nil => simp [count]
  | cons x r ih => rw [count]; split <;> simp <;> omega
theorem inB_iff (l : List ByteArray) (s : ByteArray) : inB l s = true ↔ s ∈ l := by
  rw [inB, List.any_eq_true]
  constructor
  · rintro ⟨x, hx, h⟩; simp at h; exact h ▸ hx
  · intro h; exact ⟨s, h, by simp⟩
theorem count_nodup (l : List ByteArray) : count l = l.length ↔ l.Nodup := by
  induction l with
  | nil => simp [count]
  | cons x r ih =>
    have := count_le r
    rw [count, List.nodup_cons]
    by_cases h : inB r x = true
    · rw [if_pos h]
      have hm := (inB_iff r x).1 h
      simp only [List.length_cons]
      constructor
      · intro e; omega
      · rintro ⟨h1, _⟩; exact absurd hm h1
    · rw [if_neg h]
      have hm : x ∉ r := fun hm => h ((inB_iff r x).2 hm)
      simp only [List.length_cons]
      constructor
      · intro e; exact ⟨hm, ih.1 (by omega)⟩
      · rintro ⟨_, h2⟩; have := ih.2 h2; omega

theorem nodup_rev (l : List ByteArray) : l.reverse.Nodup ↔ l.Nodup := by
  unfold List.Nodup
  rw [List.pairwise_reverse]
  constructor <;> exact fun h => h.imp (fun h => Ne.symm h)

theorem setM_some (l : List ByteArray) (s : ByteArray) : (setM l s).isSome = inB l s := by
  induction l with
  | nil => rfl
  | cons k r ih =>
    simp only [setM, inB, List.any_cons] at ih ⊢
    by_cases h : s = k
    · subst h; simp
    · have h' : ¬ k = s := fun e => h e.symm
      rw [if_neg h, ih]
      simp [h']

theorem wpl_put1 {P : Program} {t kt et : TypeId} {z : Value} (M : SmapT P t kt et z) {w : World} {ops : Array Oper} {rest : List Oper} {o : Oper} {a : Act} {Q : Exit → Act → World → Prop} (hg : o.guard = none) (x y v : Operand) (hop : o.op = Op.mapUpdate t x y v)
    {b : Nat} {l : List ByteArray} {s : ByteArray} (hx : a.eval x = .map (some b)) (hy : a.eval y = .string s) (hv : a.eval v = .bool true) (h : SMap P kt w b (setM l) (count l)) (hs : s.size ≤ maxLen) (hn : l.length < 1000)
    (hK : ∀ w', SMap P kt w' b (setM (s :: l)) (count (s :: l)) → w.grownBy w' (some b) → wpList P ops Q rest (a.put o.dst undef) w') :
    wpList P ops Q (o :: rest) a w := by
  have hc := count_le l
  refine wpl_put M hg x y v hop hx hy hv h hs (by unfold maxLen; omega) ?_
  intro w' h1 h2
  rw [setM_some] at h1
  exact hK w' h1 h2

theorem takeN_snoc (l : List Par) (k : Nat) (h : k < l.length) : (l.take (k + 1)).map Par.name = (l.take k).map Par.name ++ [(at' l k).name] := by
  rw [List.take_add_one, List.getElem?_eq_getElem h, List.map_append, at_eq h]; rfl

set_option maxRecDepth 100000 in
set_option maxHeartbeats 1600000 in
theorem parameters_any (v : Value) (l : List Par) (A : Nat → Prop) (w : World) (hv : ParsAt A w v l) :
    Calls Tryz.prog 91 #[v] w fun e w' => e = .returned (.int .i64 (parsE l)) ∧ Below w.heap.size w w' := by
  obtain ⟨hlen, a, cap, rfl⟩ := hv.form
  unfold maxLen at hlen
  by_cases h8 : 8 < l.length
  · have d1 : decide (8 < (l.length : Int)) = true := by simp; omega
    have HP := Lib.hid (show parsE l = 5 by rw [parsE, if_pos h8])
    go_enter Tryz.func91, Tryz.ntmps91
    go_wp2
    go_ret
    rw [HP.out]
    exact ⟨rfl, Below.refl _ _⟩
  · have d1 : decide (8 < (l.length : Int)) = false := by simp; omega
    have hm0 : SMap Tryz.prog 9 (w.alloc (.map #[] 0)) w.heap.size (setM ((l.take 0).map Par.name).reverse) (count ((l.take 0).map Par.name).reverse) := SMap.made Tryz.prog 9 w
    have hb0 : Below w.heap.size w (w.alloc (.map #[] 0)) := (Below.refl _ _).alloc (Nat.le_refl _) _
    have hmm := @run_makeMap Tryz.prog
    go_enter Tryz.func91, Tryz.ntmps91
    go_wp2
    clear hmm
    go_loopw [12] (fun i wr => ∃ k : Nat, k ≤ l.length ∧ i = .int .i64 k ∧ (∀ j, j < k → nameB (at' l j).name = true) ∧ SMap Tryz.prog 9 wr w.heap.size (setM ((l.take k).map Par.name).reverse) (count ((l.take k).map Par.name).reverse) ∧ Below w.heap.size w wr) (fun i _ => l.length - (intOf i).toNat)
    case atStart => exact ⟨0, Nat.zero_le _, rfl, fun j hj => absurd hj (by omega), hm0, hb0⟩
    case round =>
      clear hm0 hb0
      obtain ⟨k, hk, rfl, hno, hm, hbl⟩ := hrel
      have HN := Lib.hid hno
      clear hno
      have hz := hbl.size
      by_cases hlt : k < l.length
      · obtain ⟨b, off, cap', he, hb, _, _, c0, c1, hs⟩ := (hv.stays (Stays.of_below hbl)).at hlt
        simp only [Value.slice.injEq] at he
        obtain ⟨rfl, -, rfl⟩ := he
        have hA2 : Below wr.heap.size wr (wr.alloc (.cells #[.string (at' l k).name, .bool (at' l k).list] 57)) := (Below.refl _ _).alloc (Nat.le_refl _) _
        go_wp2_with fail
        refine (isName_any (at' l k).name _ hs).mono ?_
        rintro e w2 ⟨rfl, hb2⟩
        have hb2' := hA2.trans (hb2.mono (by simp))
        have hB2 : Below w.heap.size w w2 := hbl.trans (hb2'.mono hz)
        have hm2 := hm.below hb2'
        have hp0 : w2.cell? ⟨wr.heap.size, 0, none⟩ = some (.string (at' l k).name) := (hb2.cell (p := ⟨wr.heap.size, 0, none⟩) (by simp)).trans (by simp)
        have hz2 := hB2.size
        clear hm hA2 hb2 hb2'
        cases hnm : nameB (at' l k).name with
        | false =>
          have HP := Lib.hid (show parsE l = 3 by
            have : l.all (fun p => nameB p.name) = false := by rw [List.all_eq_false]; exact ⟨_, at_mem hlt, by simp [hnm]⟩
            rw [parsE, if_neg h8, this]; simp)
          clear hnm
          go_wp2
          go_ret
          rw [HP.out]
          exact ⟨rfl, hB2⟩
        | true =>
          have HM := Lib.hid hnm
          clear hnm
          go_wp2_with (at_mapUpdate; refine wpl_put1 MB rfl (.tmp 20) (.tmp 22) _ rfl rfl rfl rfl hm2 hs (by simp; omega) ?_; intro w3 hm3 hg3; have hB3 := below_grownN hB2 hg3 hz2 (Nat.le_refl _))
          go_roundw
          case rel => exact ⟨k + 1, by omega, by go_num, fun j hj => (by
            by_cases e : j = k
            · rw [e]; exact HM.out
            · exact HN.out j (by omega)), by rw [takeN_snoc l k hlt, List.reverse_append]; exact hm3, hB3⟩
          case measure => simp [intOf]; omega
      · obtain rfl : k = l.length := by omega
        rw [List.take_length] at hm
        have hlen2 := hm.len MB 3
        have hall : l.all (fun p => nameB p.name) = true := by
          rw [List.all_eq_true]; intro p hp
          obtain ⟨j, hj, rfl⟩ := List.mem_iff_getElem.1 hp
          have := HN.out j hj
          rwa [at_eq hj] at this
        have hcl := count_le (l.map Par.name).reverse
        have hcn := count_nodup (l.map Par.name).reverse
        simp only [List.length_reverse, List.length_map, nodup_rev] at hcl hcn
        by_cases hlt2 : count (l.map Par.name).reverse < l.length
        · have HP := Lib.hid (show parsE l = 22 by rw [parsE, if_neg h8, if_pos hall, if_neg (fun h => by have := hcn.2 h; omega)])
          have d2 : decide (count (l.map Par.name).reverse < l.length) = true := by simpa using hlt2
          clear hall hcn hlt2
          go_wp2
          go_ret
          rw [HP.out]
          exact ⟨rfl, hbl⟩
        · have HP := Lib.hid (show parsE l = 0 by rw [parsE, if_neg h8, if_pos hall, if_pos (hcn.1 (by omega))])
          have d2 : decide (count (l.map Par.name).reverse < l.length) = false := by simpa using hlt2
          clear hall hcn hlt2
          go_wp2
          go_ret
          rw [HP.out]
          exact ⟨rfl, hbl⟩
end Go.Proofs.YtehmmokkjojggabGreatDoor
/- Walks: reach, result. -/
namespace Go.Proofs.YtehmmokkjojggabGreatDoor
set_option linter.unusedVariables false
open Go.RowKit

theorem find_cases' (name : ByteArray) : ∀ (lib : List Fn) (i : Int), (∃ k, k < lib.length ∧ findFrom name lib i = i + (k : Nat) ∧ (at' lib k).name = name) ∨ findFrom name lib i = -1
  | [], i => .inr rfl
  | f :: r, i => by
    by_cases h : f.name = name
    · exact .inl ⟨0, by simp, by rw [findFrom, if_pos h]; simp, h⟩
    · rw [findFrom, if_neg h]
      rcases find_cases' name r (i + 1) with ⟨k, h1, h2, h3⟩ | h2
      · exact .inl ⟨k + 1, by simpa using h1, by rw [h2]; omega, h3⟩
      · exact .inr h2
theorem find_cases (lib : List Fn) (name : ByteArray) : (∃ k : Nat, k < lib.length ∧ findF lib name = k ∧ fnAt lib (findF lib name) = at' lib k ∧ (at' lib k).name = name) ∨ findF lib name = -1 := by
  rcases find_cases' name lib 0 with ⟨k, h1, h2, h3⟩ | h
  · have e : findF lib name = k := by rw [findF, h2]; omega
    exact .inl ⟨k, h1, e, by rw [e]; rfl, h3⟩
  · exact .inr h

/-- the visible variables, as a map's elements -/
def visM (vis : Vis) : ByteArray → Option Value := fun s => (vis s).map Value.bool
theorem visM_some (vis : Vis) (s : ByteArray) : (visM vis s).isSome = (vis s).isSome := by simp [visM]
theorem visM_get (vis : Vis) (s : ByteArray) : (visM vis s).getD (.bool false) = .bool ((vis s).getD false) := by
  cases h : vis s <;> simp [visM, h]

set_option maxRecDepth 100000 in
set_option maxHeartbeats 3200000 in
theorem reach_any (lv : Value) (lib : List Fn) (bm N : Nat) (vis : Vis) (v : Value) (n : Nd) (A : Nat → Prop) (w : World) (hl : FnsAt A w lv lib) (hm : SMapLe Tryz.prog 9 w bm (visM vis) N) (hv : NdAt A w v n) :
    Calls Tryz.prog 122 #[lv, .map (some bm), v] w fun e w' => e = .returned (.int .i64 (reachE lib vis n.kind n.name n.kids.length)) ∧ Below w.heap.size w w' := by
  obtain ⟨hok, hlen, ka, kc, rfl, hk⟩ := hv.open
  obtain ⟨hll, la, lc, rfl⟩ := hl.form
  obtain ⟨k, num, name, kids⟩ := n
  obtain ⟨⟨hk0, hk1⟩, hn64, hs⟩ := hok
  simp only [Nd.kind, Nd.num, Nd.name, Nd.kids] at *
  unfold maxLen at hlen hll
  clear hv hk
  generalize kids.length = m at *
  have hA : Below w.heap.size w (w.alloc (.cells #[.int .u8 k, .int .i64 num, .string name, .slice ka m kc] 35)) := (Below.refl _ _).alloc (Nat.le_refl _) _
  have hmA := hm.below hA
  have hlA := hl.stays (Stays.of_below hA)
  have hvs := Lib.hid (visM_some vis name)
  have hvg := Lib.hid (visM_get vis name)
  clear hm hl
  by_cases h81 : k = 81
  · subst h81
    cases hf : (vis name).isSome
    all_goals
      have HF := Lib.hid hf
      clear hf
      go_enter Tryz.func122, Tryz.ntmps122
      go_wp2_with (refine wpl_find MB rfl (.tmp 11) (.tmp 13) true rfl rfl rfl hmA hs (r := .tuple #[.bool ((vis name).getD false), .bool _]) (by rw [hvs.out, hvg.out, HF.out]; rfl) ?_)
      go_ret
      refine ⟨?_, hA⟩
      simp [reachE, HF.out]
  · have d81 : (k == 81) = false := by simpa using h81
    by_cases h84 : k = 84
    · subst h84
      cases hf : (vis name).isSome
      all_goals
        have HF := Lib.hid hf
        clear hf
        go_enter Tryz.func122, Tryz.ntmps122
        go_wp2_with (refine wpl_find MB rfl (.tmp 11) (.tmp 13) true rfl rfl rfl hmA hs (r := .tuple #[.bool ((vis name).getD false), .bool _]) (by rw [hvs.out, hvg.out, HF.out]; rfl) ?_)
        go_ret
        refine ⟨?_, hA⟩
        simp [reachE, HF.out]
    · have d84 : (k == 84) = false := by simpa using h84
      by_cases h85 : k = 85
      · subst h85
        rcases find_cases lib name with ⟨j, hj, e1, e2, e3⟩ | e1
        · have HR : Hid (reachE lib vis 85 name m = if m ≠ (at' lib j).params.length then 7 else 0) := Lib.hid (by unfold reachE; rw [if_neg (by decide), if_neg (by decide), if_pos rfl, e2, if_neg (by rw [e1]; omega)])
          have E1 := Lib.hid e1
          clear e1 e2 e3
          go_enter Tryz.func122, Tryz.ntmps122
          go_wp2_with (refine wpl_find MB rfl (.tmp 11) (.tmp 13) true rfl rfl rfl hmA hs (r := .tuple #[.bool ((vis name).getD false), .bool (vis name).isSome]) (by rw [hvs.out, hvg.out]; rfl) ?_)
          refine (find_any _ lib name A _ hlA).mono ?_
          rintro e w2 ⟨rfl, hb2⟩
          rw [E1.out]
          have hB2 : Below w.heap.size w w2 := hA.trans (hb2.mono (by simp))
          have hc3 : w2.cell? ⟨w.heap.size, 3, none⟩ = some (.slice ka m kc) := (hb2.cell (p := ⟨w.heap.size, 3, none⟩) (by simp)).trans (by simp)
          obtain ⟨b, off, cap', pa, pc, ka', kc', he, hb, _, _, _, c1, _, _, _, _, _, _, hpar, _⟩ := (hlA.stays (Stays.of_below hb2)).at hj
          simp only [Value.slice.injEq] at he
          obtain ⟨rfl, -, rfl⟩ := he
          have hpl := hpar.form.1
          unfold maxLen at hpl
          have b0 : (0 : Int) ≤ (j : Int) := by omega
          have b1 : (j : Int) < (lib.length : Int) := by omega
          clear hpar hmA hlA hb2
          by_cases hme : m = (at' lib j).params.length
          · have d0 : ((m : Int) != ((at' lib j).params.length : Int)) = false := by simp [hme]
            have HR2 : Hid (reachE lib vis 85 name m = 0) := Lib.hid (HR.out.trans (by simp [hme]))
            clear hme
            go_wp2
            go_quiet (fail)
            go_wp2
            go_ret
            rw [HR2.out]
            exact ⟨rfl, below_drewN hB2 _⟩
          · have d0 : ((m : Int) != ((at' lib j).params.length : Int)) = true := by simp; omega
            have HR2 : Hid (reachE lib vis 85 name m = 7) := Lib.hid (HR.out.trans (by simp [hme]))
            clear hme
            go_wp2
            go_quiet (fail)
            go_wp2
            go_ret
            rw [HR2.out]
            exact ⟨rfl, below_drewN hB2 _⟩
        · have HR : Hid (reachE lib vis 85 name m = 6) := Lib.hid (by simp [reachE, e1])
          have E1 := Lib.hid e1
          clear e1
          go_enter Tryz.func122, Tryz.ntmps122
          go_wp2_with (refine wpl_find MB rfl (.tmp 11) (.tmp 13) true rfl rfl rfl hmA hs (r := .tuple #[.bool ((vis name).getD false), .bool (vis name).isSome]) (by rw [hvs.out, hvg.out]; rfl) ?_)
          refine (find_any _ lib name A _ hlA).mono ?_
          rintro e w2 ⟨rfl, hb2⟩
          rw [E1.out]
          go_wp2
          go_ret
          rw [HR.out]
          exact ⟨rfl, hA.trans (hb2.mono (by simp))⟩
      · have d85 : (k == 85) = false := by simpa using h85
        go_enter Tryz.func122, Tryz.ntmps122
        go_wp2_with (refine wpl_find MB rfl (.tmp 11) (.tmp 13) true rfl rfl rfl hmA hs (r := .tuple #[.bool ((vis name).getD false), .bool (vis name).isSome]) (by rw [hvs.out, hvg.out]; rfl) ?_)
        go_ret
        refine ⟨?_, hA⟩
        simp [reachE, h81, h84, h85]

theorem BoolsAt.at {w : World} {v : Value} {l : List Bool} (h : BoolsAt w v l) {j : Nat} (hj : j < l.length) : ∃ b off cap, v = .slice (some ⟨b, off, none⟩) l.length cap ∧ b < w.heap.size ∧ w.cell? ⟨b, off + j, none⟩ = some (.bool (at' l j)) := by
  obtain ⟨_, a, cap, rfl, hc⟩ := h
  obtain ⟨b, off, rfl, hb, hc⟩ := hc (by omega)
  exact ⟨b, off, cap, rfl, hb, hc j hj⟩

theorem rowB_snoc {w w1 : World} {base : Nat} {v v' : Value} {l : List Bool} {x : Bool} (h : RowB w base v l) (hl : l.length < 100000) (h1 : w1.ownsRow base 4 1 v' (l.length + 1) (l.map Value.bool ++ [.bool x])) : RowB w1 base v' (l ++ [x]) :=
  ⟨by simp; omega, by simpa using h1⟩

/-- 'l = append(l, b)' on bools of the call's own -/
theorem wpl_appendB {wr : World} {ops : Array Oper} {rest : List Oper} {o : Oper} {a : Act} {Q : Exit → Act → World → Prop} (hgd : o.guard = none) (s x : Operand)
    (ho : o.op = .call { callee := .builtin .append, args := #[s, x], argTypes := #[155, 155] })
    {base : Nat} {v : Value} {l : List Bool} {y : Bool} {g : Nat} (hs : a.eval s = v) (hx : a.eval x = .slice (some ⟨g, 0, none⟩) 1 1) (hg : g = wr.heap.size)
    (hown : RowB wr base v l) (hl : l.length < 100000) (hbase : base ≤ wr.heap.size)
    (h : ∀ v' w1, RowB w1 base v' (l ++ [y]) → wr.grownBy w1 v.ownBlock → NewOr wr v v' → wpList Tryz.prog ops Q rest (a.put o.dst v') w1) :
    wpList Tryz.prog ops Q (o :: rest) a (wr.alloc (.cells #[.bool y] 4)) := by
  subst hg
  refine wpl_append1v TB rfl hgd s x ho hs hx (xs := l.map Value.bool) (by simpa using hown.2) rfl (by simp; omega) (by simp; unfold maxLen; omega) hbase ?_
  intro v' w1 h1 h2 h3
  exact h v' w1 (rowB_snoc hown hl (by simpa using h1)) h2 h3

theorem takeL_snoc (l : List Par) (k : Nat) (h : k < l.length) : (l.take (k + 1)).map Par.list = (l.take k).map Par.list ++ [(at' l k).list] := by
  rw [List.take_add_one, List.getElem?_eq_getElem h, List.map_append, at_eq h]; rfl

/-- the last step of 'result': the wanted types against those that are -/
theorem result_ret (lib : List Fn) (k : Int) (name : ByteArray) (types : List Bool) {want : List Bool} {list : Bool} (h : wantT lib k name types = (want, list)) :
    (decide (types = want) = true → resultT lib k name types = (list, 0)) ∧ (decide (types = want) = false → resultT lib k name types = (false, 7)) := by
  unfold resultT
  rw [h]
  constructor
  · intro e; rw [if_pos (by simpa using e)]
  · intro e; rw [if_neg (by simpa using e)]

set_option maxRecDepth 100000 in
set_option maxHeartbeats 3200000 in
theorem result_simple (lv tv : Value) (lib : List Fn) (v : Value) (n : Nd) (types : List Bool) (A : Nat → Prop) (w : World) (ht : BoolsAt w tv types) (hv : NdAt A w v n) (h85 : n.kind ≠ 85) (h2 : n.kind = 83 ∨ n.kind = 84 → 2 ≤ types.length) :
    Calls Tryz.prog 123 #[lv, v, tv] w fun e w' => e = .returned (.tuple #[.bool (resultT lib n.kind n.name types).1, .int .i64 (resultT lib n.kind n.name types).2]) ∧ Below w.heap.size w w' := by
  obtain ⟨hok, hlen, ka, kc, rfl, hk⟩ := hv.open
  obtain ⟨k, num, name, kids⟩ := n
  obtain ⟨⟨hk0, hk1⟩, hn64, hs⟩ := hok
  simp only [Nd.kind, Nd.num, Nd.name, Nd.kids] at *
  clear hv hk
  generalize kids.length = m at *
  have hA : Below w.heap.size w (w.alloc (.cells #[.int .u8 k, .int .i64 num, .string name, .slice ka m kc] 35)) := (Below.refl _ _).alloc (Nat.le_refl _) _
  have d85 : (k == 85) = false := by simpa using h85
  have htA := ht.below hA
  by_cases h82 : k = 82
  · subst h82
    have hr := result_ret lib 82 name types (want := [false, false]) (list := false) (by simp [wantT])
    have hA2 := hA.alloc (by simp) (.cells ([false, false].map Value.bool).toArray 4)
    have hlit := rowB_lit (base := 0) [false, false] (by simp) (Nat.zero_le _) (at_new w (.cells #[.int .u8 82, .int .i64 num, .string name, .slice ka m kc] 35) (.cells ([false, false].map Value.bool).toArray 4))
    cases hd : decide (types = [false, false])
    all_goals
      have HD := Lib.hid hd
      have HR := Lib.hid hr
      clear hd hr
      go_enter Tryz.func123, Tryz.ntmps123
      go_wp2_with fail
      refine (equalB_any tv _ types [false, false] _ (ht.below hA2) hlit.bools).mono ?_
      rintro e w2 ⟨rfl, hb2⟩
      rw [HD.out]
      go_wp2
      go_ret2
      refine ⟨?_, hA2.trans (hb2.mono (by simp; try omega))⟩
      first | (rw [HR.out.1 HD.out]; rfl) | (rw [HR.out.2 HD.out]; rfl)
  · have d82 : (k == 82) = false := by simpa using h82
    by_cases h83 : k = 83
    · subst h83
      obtain ⟨bt, ot, ct, rfl, hbt, hct⟩ := htA.at (j := 1) (by have := h2 (.inl rfl); omega)
      have hlt : (1 : Int) < (types.length : Int) := by have := h2 (.inl rfl); omega
      have hr := result_ret lib 83 name types (want := [false, at' types 1, at' types 1]) (list := at' types 1) (by simp [wantT, at'])
      have hA2 := hA.alloc (by simp) (.cells ([false, at' types 1, at' types 1].map Value.bool).toArray 4)
      have hlit := rowB_lit (base := 0) [false, at' types 1, at' types 1] (by simp) (Nat.zero_le _) (at_new w (.cells #[.int .u8 83, .int .i64 num, .string name, .slice ka m kc] 35) (.cells ([false, at' types 1, at' types 1].map Value.bool).toArray 4))
      cases hd : decide (types = [false, at' types 1, at' types 1])
      all_goals
        have HD := Lib.hid hd
        have HR := Lib.hid hr
        clear hd hr
        go_enter Tryz.func123, Tryz.ntmps123
        go_wp2_with fail
        refine (equalB_any _ _ types [false, at' types 1, at' types 1] _ (ht.below hA2) hlit.bools).mono ?_
        rintro e w2 ⟨rfl, hb2⟩
        rw [HD.out]
        go_wp2
        go_ret2
        refine ⟨?_, hA2.trans (hb2.mono (by simp; try omega))⟩
        first | (rw [HR.out.1 HD.out]; rfl) | (rw [HR.out.2 HD.out]; rfl)
    · have d83 : (k == 83) = false := by simpa using h83
      by_cases h84 : k = 84
      · subst h84
        obtain ⟨bt, ot, ct, rfl, hbt, hct⟩ := htA.at (j := 1) (by have := h2 (.inr rfl); omega)
        have hlt : (1 : Int) < (types.length : Int) := by have := h2 (.inr rfl); omega
        have hr := result_ret lib 84 name types (want := types) (list := at' types 1) (by simp [wantT, at'])
        have hA2 := hA
        clear hr
        go_enter Tryz.func123, Tryz.ntmps123
        go_wp2_with fail
        refine (equalB_any _ _ types types _ (ht.below hA2) (ht.below hA2)).mono ?_
        rintro e w2 ⟨rfl, hb2⟩
        rw [show decide (types = types) = true from decide_eq_true rfl]
        go_wp2
        go_ret2
        refine ⟨?_, hA2.trans (hb2.mono (by simp))⟩
        rw [(result_ret lib 84 name types (want := types) (list := at' types 1) (by simp [wantT, at'])).1 (decide_eq_true rfl)]; rfl
      · have d84 : (k == 84) = false := by simpa using h84
        by_cases h86 : k = 86
        · subst h86
          have hr := result_ret lib 86 name types (want := []) (list := true) (by simp [wantT])
          have hA2 := hA
          cases hd : decide (types = [])
          all_goals
            have HD := Lib.hid hd
            have HR := Lib.hid hr
            clear hd hr
            go_enter Tryz.func123, Tryz.ntmps123
            go_wp2_with fail
            refine (equalB_any tv _ types [] _ (ht.below hA2) (RowB.nil _ 0).bools).mono ?_
            rintro e w2 ⟨rfl, hb2⟩
            rw [HD.out]
            go_wp2
            go_ret2
            refine ⟨?_, hA2.trans (hb2.mono (by simp; try omega))⟩
            first | (rw [HR.out.1 HD.out]; rfl) | (rw [HR.out.2 HD.out]; rfl)
        · have d86 : (k == 86) = false := by simpa using h86
          by_cases h87 : k = 87
          · subst h87
            have hr := result_ret lib 87 name types (want := [false, true]) (list := true) (by simp [wantT])
            have hA2 := hA.alloc (by simp) (.cells ([false, true].map Value.bool).toArray 4)
            have hlit := rowB_lit (base := 0) [false, true] (by simp) (Nat.zero_le _) (at_new w (.cells #[.int .u8 87, .int .i64 num, .string name, .slice ka m kc] 35) (.cells ([false, true].map Value.bool).toArray 4))
            cases hd : decide (types = [false, true])
            all_goals
              have HD := Lib.hid hd
              have HR := Lib.hid hr
              clear hd hr
              go_enter Tryz.func123, Tryz.ntmps123
              go_wp2_with fail
              refine (equalB_any tv _ types [false, true] _ (ht.below hA2) hlit.bools).mono ?_
              rintro e w2 ⟨rfl, hb2⟩
              rw [HD.out]
              go_wp2
              go_ret2
              refine ⟨?_, hA2.trans (hb2.mono (by simp; try omega))⟩
              first | (rw [HR.out.1 HD.out]; rfl) | (rw [HR.out.2 HD.out]; rfl)
          · have d87 : (k == 87) = false := by simpa using h87
            by_cases h88 : k = 88
            · subst h88
              have hr := result_ret lib 88 name types (want := [true]) (list := false) (by simp [wantT])
              have hA2 := hA.alloc (by simp) (.cells ([true].map Value.bool).toArray 4)
              have hlit := rowB_lit (base := 0) [true] (by simp) (Nat.zero_le _) (at_new w (.cells #[.int .u8 88, .int .i64 num, .string name, .slice ka m kc] 35) (.cells ([true].map Value.bool).toArray 4))
              cases hd : decide (types = [true])
              all_goals
                have HD := Lib.hid hd
                have HR := Lib.hid hr
                clear hd hr
                go_enter Tryz.func123, Tryz.ntmps123
                go_wp2_with fail
                refine (equalB_any tv _ types [true] _ (ht.below hA2) hlit.bools).mono ?_
                rintro e w2 ⟨rfl, hb2⟩
                rw [HD.out]
                go_wp2
                go_ret2
                refine ⟨?_, hA2.trans (hb2.mono (by simp; try omega))⟩
                first | (rw [HR.out.1 HD.out]; rfl) | (rw [HR.out.2 HD.out]; rfl)
            · have d88 : (k == 88) = false := by simpa using h88
              by_cases h90 : k = 90
              · subst h90
                have hr := result_ret lib 90 name types (want := [true]) (list := false) (by simp [wantT])
                have hA2 := hA.alloc (by simp) (.cells ([true].map Value.bool).toArray 4)
                have hlit := rowB_lit (base := 0) [true] (by simp) (Nat.zero_le _) (at_new w (.cells #[.int .u8 90, .int .i64 num, .string name, .slice ka m kc] 35) (.cells ([true].map Value.bool).toArray 4))
                cases hd : decide (types = [true])
                all_goals
                  have HD := Lib.hid hd
                  have HR := Lib.hid hr
                  clear hd hr
                  go_enter Tryz.func123, Tryz.ntmps123
                  go_wp2_with fail
                  refine (equalB_any tv _ types [true] _ (ht.below hA2) hlit.bools).mono ?_
                  rintro e w2 ⟨rfl, hb2⟩
                  rw [HD.out]
                  go_wp2
                  go_ret2
                  refine ⟨?_, hA2.trans (hb2.mono (by simp; try omega))⟩
                  first | (rw [HR.out.1 HD.out]; rfl) | (rw [HR.out.2 HD.out]; rfl)
              · have d90 : (k == 90) = false := by simpa using h90
                by_cases h89 : k = 89
                · subst h89
                  have hr := result_ret lib 89 name types (want := [true]) (list := true) (by simp [wantT])
                  have hA2 := hA.alloc (by simp) (.cells ([true].map Value.bool).toArray 4)
                  have hlit := rowB_lit (base := 0) [true] (by simp) (Nat.zero_le _) (at_new w (.cells #[.int .u8 89, .int .i64 num, .string name, .slice ka m kc] 35) (.cells ([true].map Value.bool).toArray 4))
                  cases hd : decide (types = [true])
                  all_goals
                    have HD := Lib.hid hd
                    have HR := Lib.hid hr
                    clear hd hr
                    go_enter Tryz.func123, Tryz.ntmps123
                    go_wp2_with fail
                    refine (equalB_any tv _ types [true] _ (ht.below hA2) hlit.bools).mono ?_
                    rintro e w2 ⟨rfl, hb2⟩
                    rw [HD.out]
                    go_wp2
                    go_ret2
                    refine ⟨?_, hA2.trans (hb2.mono (by simp; try omega))⟩
                    first | (rw [HR.out.1 HD.out]; rfl) | (rw [HR.out.2 HD.out]; rfl)
                · have d89 : (k == 89) = false := by simpa using h89
                  have hr := result_ret lib k name types (want := []) (list := false) (by simp [wantT, h82, h83, h84, h85, h86, h87, h88, h89, h90])
                  have hA2 := hA
                  cases hd : decide (types = [])
                  all_goals
                    have HD := Lib.hid hd
                    have HR := Lib.hid hr
                    clear hd hr
                    go_enter Tryz.func123, Tryz.ntmps123
                    go_wp2_with fail
                    refine (equalB_any tv _ types [] _ (ht.below hA2) (RowB.nil _ 0).bools).mono ?_
                    rintro e w2 ⟨rfl, hb2⟩
                    rw [HD.out]
                    go_wp2
                    go_ret2
                    refine ⟨?_, hA2.trans (hb2.mono (by simp; try omega))⟩
                    first | (rw [HR.out.1 HD.out]; rfl) | (rw [HR.out.2 HD.out]; rfl)
end Go.Proofs.YtehmmokkjojggabGreatDoor
/- Walk: result of a call. -/
namespace Go.Proofs.YtehmmokkjojggabGreatDoor
set_option linter.unusedVariables false
open Go.RowKit

/-- the types of the first parameters -/
def listsTo (l : List Par) (q : Nat) : List Bool := (l.take q).map Par.list
theorem listsTo_len {l : List Par} {q : Nat} (h : q ≤ l.length) : (listsTo l q).length = q := by simp [listsTo]; omega
theorem listsTo_snoc {l : List Par} {q : Nat} (h : q < l.length) : listsTo l (q + 1) = listsTo l q ++ [(at' l q).list] := takeL_snoc l q h
theorem listsTo_all (l : List Par) : listsTo l l.length = l.map Par.list := by rw [listsTo, List.take_length]
theorem RowB.formLen {w : World} {base q : Nat} {v : Value} {l : List Bool} (h : RowB w base v l) (hl : l.length = q) : ∃ a c, v = .slice a q c := by
  obtain ⟨a, c, h⟩ := h.bools.form
  exact ⟨a, c, by rw [h, hl]⟩

set_option maxRecDepth 100000 in
set_option maxHeartbeats 3200000 in
theorem result_call (lv tv : Value) (lib : List Fn) (v : Value) (n : Nd) (types : List Bool) (A : Nat → Prop) (w : World) (hl : FnsAt A w lv lib) (ht : BoolsAt w tv types) (hv : NdAt A w v n) (h85 : n.kind = 85) (hf : 0 ≤ findF lib n.name) (hp : (fnAt lib (findF lib n.name)).params.length ≤ 50000) :
    Calls Tryz.prog 123 #[lv, v, tv] w fun e w' => e = .returned (.tuple #[.bool (resultT lib n.kind n.name types).1, .int .i64 (resultT lib n.kind n.name types).2]) ∧ Below w.heap.size w w' := by
  obtain ⟨hok, hlen, ka, kc, rfl, hk⟩ := hv.open
  obtain ⟨hll, la, lc, rfl⟩ := hl.form
  obtain ⟨k, num, name, kids⟩ := n
  obtain ⟨⟨hk0, hk1⟩, hn64, hs⟩ := hok
  simp only [Nd.kind, Nd.num, Nd.name, Nd.kids] at *
  clear hv hk
  generalize kids.length = m at *
  subst h85
  unfold maxLen at hll
  rcases find_cases lib name with ⟨j, hj, e1, e2, e3⟩ | e1
  · rw [e2] at hp
    have hr := Lib.hid (result_ret lib 85 name types (want := (at' lib j).params.map Par.list) (list := (at' lib j).list) (by simp [wantT, e2]))
    have E1 := Lib.hid e1
    clear e1 e2 e3 hf
    have hA : Below w.heap.size w (w.alloc (.cells #[.int .u8 85, .int .i64 num, .string name, .slice ka m kc] 35)) := (Below.refl _ _).alloc (Nat.le_refl _) _
    have hlA := hl.stays (Stays.of_below hA)
    go_enter Tryz.func123, Tryz.ntmps123
    go_wp2_with fail
    refine (find_any _ lib name A _ hlA).mono ?_
    rintro e w2 ⟨rfl, hb2⟩
    rw [E1.out]
    have hB2 : Below w.heap.size w w2 := hA.trans (hb2.mono (by simp))
    have hz2 := hB2.size
    obtain ⟨b, off, cap', pa, pc, ka', kc', he, hb, _, _, c0, c1, c2, c3, c4, c5, c6, hsn, hpar, hnd⟩ := (hlA.stays (Stays.of_below hb2)).at hj
    simp only [Value.slice.injEq] at he
    obtain ⟨rfl, -, rfl⟩ := he
    have b0 : (0 : Int) ≤ (j : Int) := by omega
    have b1 : (j : Int) < (lib.length : Int) := by omega
    clear hnd hb2 hlA hA hl
    go_wp2
    go_loopw [44, 8] (fun i wv wr => ∃ q : Nat, i = .int .i64 q ∧ q ≤ (at' lib j).params.length ∧ RowB wr w2.heap.size wv (listsTo (at' lib j).params q) ∧ w2.heap.size < wr.heap.size ∧ wr.cell? ⟨w2.heap.size, 2, none⟩ = some (.bool (at' lib j).list) ∧ Below w2.heap.size w2 wr ∧ ∀ k, wv.ownBlock = some k → k ≠ w2.heap.size) (fun i _ _ => (at' lib j).params.length - (intOf i).toNat)
    case atStart => exact ⟨0, rfl, Nat.zero_le _, RowB.nil _ _, by simp, by simp, (Below.refl _ _).alloc (Nat.le_refl _) _, fun k hk => by simp [Value.ownBlock] at hk⟩
    case round =>
      rename_i wv
      obtain ⟨q, rfl, hq, hrow, hzr, hc2, hbl, hne⟩ := hrel
      have HR := Lib.hid hrow
      have HNE := Lib.hid hne
      obtain ⟨wa, wc, rfl⟩ := hrow.formLen (listsTo_len hq)
      clear hrow hne
      by_cases hlt : q < (at' lib j).params.length
      · obtain ⟨bp, op, cp, he, hbp, _, _, p0, p1, hps⟩ := (hpar.stays (Stays.of_below hbl)).at hlt
        simp only [Value.slice.injEq] at he
        obtain ⟨rfl, -, rfl⟩ := he
        have HT := Lib.hid (listsTo_snoc hlt)
        have hA4 : Below wr.heap.size wr (wr.alloc (.cells #[.string (at' (at' lib j).params q).name, .bool (at' (at' lib j).params q).list] 57)) := (Below.refl _ _).alloc (Nat.le_refl _) _
        have hrow4 : RowB (wr.alloc (.cells #[.string (at' (at' lib j).params q).name, .bool (at' (at' lib j).params q).list] 57)) w2.heap.size _ _ := ⟨HR.out.1, row_below HR.out.2 hA4⟩
        have hl4 : (listsTo (at' lib j).params q).length < 100000 := by rw [listsTo_len hq]; omega
        go_wp2_with (at_builtin; refine wpl_appendB rfl (.tmp 48) (.tmp 51) rfl rfl rfl (by simp) hrow4 hl4 (by simp; omega) ?_)
        intro v5 w5 h5 hg5 hn5
        have hz5 := hg5.size
        simp at hz5
        have hB5 : Below w2.heap.size w2 w5 := (hbl.trans (hA4.mono (by omega))).grown hg5 (by simp; omega) (fun k hk => (HR.out.2.lt k hk).1)
        have hc5 : w5.cell? ⟨w2.heap.size, 2, none⟩ = some (.bool (at' lib j).list) := hg5.cell ((hA4.cell (p := ⟨w2.heap.size, 2, none⟩) hzr).trans hc2) (fun e => HNE.out _ e.symm rfl)
        have hne5 : ∀ k, v5.ownBlock = some k → k ≠ w2.heap.size := fun k hk => by
          rcases hn5 k hk with h | h
          · exact HNE.out k h
          · simp at h; omega
        obtain ⟨a5, c5', rfl⟩ := h5.formLen (q := q + 1) (by rw [List.length_append, listsTo_len hq]; rfl)
        have H5 := Lib.hid h5
        clear h5 hg5 hn5 hrow4 hA4
        go_wp2
        go_roundw
        case rel => exact ⟨q + 1, by go_num, by omega, by rw [HT.out]; exact H5.out, by omega, hc5, hB5, hne5⟩
        case measure => simp [intOf]; omega
      · obtain rfl : q = (at' lib j).params.length := by omega
        have HR := Lib.hid (show RowB wr w2.heap.size _ ((at' lib j).params.map Par.list) by rw [← listsTo_all]; exact HR.out)
        have ht2 : BoolsAt wr tv types := (ht.below hB2).below hbl
        cases hd : decide (types = (at' lib j).params.map Par.list)
        all_goals
          have HD := Lib.hid hd
          clear hd
          go_wp2_with fail
          refine (equalB_any tv _ types ((at' lib j).params.map Par.list) _ ht2 HR.out.bools).mono ?_
          rintro e w6 ⟨rfl, hb6⟩
          rw [HD.out]
          go_wp2
          go_ret2
          refine ⟨?_, (hB2.trans (hbl.mono hz2)).trans (hb6.mono (by omega))⟩
          first | (rw [hr.out.1 HD.out]; rfl) | (rw [hr.out.2 HD.out]; rfl)
  · omega
end Go.Proofs.YtehmmokkjojggabGreatDoor
/- Walk: the visitor of check. -/
namespace Go.Proofs.YtehmmokkjojggabGreatDoor
set_option linter.unusedVariables false
open Go.RowKit

theorem checkN_eq (lib : List Fn) (n : Nd) (vis : Vis) : checkN lib n vis =
    if reachE lib vis n.kind n.name n.kids.length ≠ 0 then (false, reachE lib vis n.kind n.name n.kids.length)
    else if (checkL lib (decide (n.kind = 84)) n.name n.kids 0 [] vis).2 ≠ 0 then (false, (checkL lib (decide (n.kind = 84)) n.name n.kids 0 [] vis).2)
    else if n.kind = 81 then ((vis n.name).getD false, 0) else resultT lib n.kind n.name (checkL lib (decide (n.kind = 84)) n.name n.kids 0 [] vis).1 := by
  cases n; rfl

theorem drop_cons {l : List Nd} {q : Nat} (h : q < l.length) : l.drop q = at' l q :: l.drop (q + 1) := by rw [at_eq h]; exact List.drop_eq_getElem_cons h
theorem checkL_step {lib : List Fn} {b : Bool} {name : ByteArray} {l : List Nd} {q : Nat} (h : q < l.length) (types : List Bool) (vis : Vis) :
    checkL lib b name (l.drop q) q types vis = if (checkN lib (at' l q) (if b ∧ q = 1 then vis.put name (types.getD 0 false) else vis)).2 ≠ 0 then ([], (checkN lib (at' l q) (if b ∧ q = 1 then vis.put name (types.getD 0 false) else vis)).2)
      else checkL lib b name (l.drop (q + 1)) (q + 1) (types ++ [(checkN lib (at' l q) (if b ∧ q = 1 then vis.put name (types.getD 0 false) else vis)).1]) vis := by
  rw [drop_cons h]; rfl

/-- what the visitor finds in memory -/
structure VisAt (A : Nat → Prop) (w : World) (bl bv bf bm N : Nat) (lib : List Fn) (vis : Vis) (lv : Value) : Prop where
  lcell : w.cell? ⟨bl, 0, none⟩ = some lv
  vcell : w.cell? ⟨bv, 0, none⟩ = some (.map (some bm))
  fcell : w.cell? ⟨bf, 0, none⟩ = some (.func (.func 121) #[] #[.pointer (some ⟨bl, 0, none⟩), .pointer (some ⟨bv, 0, none⟩), .pointer (some ⟨bf, 0, none⟩)])
  llt : bl < w.heap.size ∧ bl ≠ bm
  vlt : bv < w.heap.size ∧ bv ≠ bm
  flt : bf < w.heap.size ∧ bf ≠ bm
  map : SMapLe Tryz.prog 9 w bm (visM vis) N
  lib : FnsAt A w lv lib
  apart : ¬ A bm

theorem VisAt.keeps {A : Nat → Prop} {w w' : World} {bl bv bf bm N N' : Nat} {lib : List Fn} {vis vis' : Vis} {lv : Value} (h : VisAt A w bl bv bf bm N lib vis lv) (hk : Keeps w w' (fun k => k = bm)) (hm : SMapLe Tryz.prog 9 w' bm (visM vis') N') : VisAt A w' bl bv bf bm N' lib vis' lv :=
  ⟨(hk.cell h.llt.1 h.llt.2).trans h.lcell, (hk.cell h.vlt.1 h.vlt.2).trans h.vcell, (hk.cell h.flt.1 h.flt.2).trans h.fcell,
    ⟨Nat.lt_of_lt_of_le h.llt.1 hk.size, h.llt.2⟩, ⟨Nat.lt_of_lt_of_le h.vlt.1 hk.size, h.vlt.2⟩, ⟨Nat.lt_of_lt_of_le h.flt.1 hk.size, h.flt.2⟩, hm,
    h.lib.stays (hk.stays (fun k ha _ e => h.apart (e ▸ ha))), h.apart⟩
theorem VisAt.below {A : Nat → Prop} {w w' : World} {bl bv bf bm N : Nat} {lib : List Fn} {vis : Vis} {lv : Value} (h : VisAt A w bl bv bf bm N lib vis lv) (hb : Below w.heap.size w w') : VisAt A w' bl bv bf bm N lib vis lv :=
  h.keeps (Keeps.of_below _ hb) (h.map.below hb)
theorem nd_keeps {A : Nat → Prop} {w w' : World} {bm : Nat} {v : Value} {n : Nd} (h : NdAt A w v n) (hk : Keeps w w' (fun k => k = bm)) (ha : ¬ A bm) : NdAt A w' v n := h.stays (hk.stays (fun k hA _ e => ha (e ▸ hA)))

/-- what the visitor leaves -/
def VisPost (A : Nat → Prop) (w : World) (bm N : Nat) (lib : List Fn) (vis : Vis) (n : Nd) (e : Ending) (w' : World) : Prop :=
  e = .returned (.tuple #[.bool (checkN lib n vis).1, .int .i64 (checkN lib n vis).2]) ∧ Keeps w w' (fun k => k = bm) ∧ ((checkN lib n vis).2 = 0 → SMapLe Tryz.prog 9 w' bm (visM vis) (N + 2 * sizeN n))

theorem visM_put (vis : Vis) (name : ByteArray) (b : Bool) : ∀ s, (fun y => if y = name then some (Value.bool b) else visM vis y) s = visM (vis.put name b) s := by
  intro s
  simp only [visM, Vis.put]
  split <;> rfl
theorem visM_del (vis : Vis) (name : ByteArray) (b : Bool) (h : vis name = none) : ∀ s, (fun y => if y = name then none else visM (vis.put name b) y) s = visM vis s := by
  intro s
  simp only [visM, Vis.put]
  by_cases e : s = name
  · subst e; simp [h]
  · simp [e]
theorem formed_let {n : Nd} (h : formedN n = true) (hk : n.kind = 84) : n.kids.length = 2 := by
  rw [formedN_eq, Bool.and_eq_true] at h
  have := h.1
  rw [hk] at this
  simp [formB] at this
  exact this.2.2
theorem formed_kid {n : Nd} (h : formedN n = true) {j : Nat} (hj : j < n.kids.length) : formedN (at' n.kids j) = true := by
  rw [formedN_eq, Bool.and_eq_true] at h
  exact (formedL_iff _).1 h.2 j hj

/-- the loop of the visitor: behind q children -/
def VLoop (A : Nat → Prop) (w wr : World) (bl bv bf bm N : Nat) (lib : List Fn) (vis : Vis) (lv : Value) (n : Nd) (q : Nat) (types : List Bool) (tv kv : Value) : Prop :=
  q ≤ n.kids.length ∧ types.length = q ∧ checkL lib (decide (n.kind = 84)) n.name n.kids 0 [] vis = checkL lib (decide (n.kind = 84)) n.name (n.kids.drop q) q types vis ∧
    RowB wr w.heap.size tv types ∧ Keeps w wr (fun k => k = bm) ∧ SMapLe Tryz.prog 9 wr bm (visM vis) (N + 2 * sizeL (n.kids.take q) + (if n.kind = 84 then q else 0)) ∧
    (∀ k, tv.ownBlock = some k → k ≠ w.heap.size) ∧ w.heap.size < wr.heap.size ∧
    wr.cell? ⟨w.heap.size, 0, none⟩ = some (.int .u8 n.kind) ∧ wr.cell? ⟨w.heap.size, 1, none⟩ = some (.int .i64 n.num) ∧ wr.cell? ⟨w.heap.size, 2, none⟩ = some (.string n.name) ∧ wr.cell? ⟨w.heap.size, 3, none⟩ = some kv

theorem length_size : ∀ l : List Nd, l.length ≤ sizeL l
  | [] => by simp [sizeL]
  | n :: r => by have := length_size r; have := size_pos n; simp [sizeL]; omega

theorem vbound {a b c N q : Nat} {p : Prop} [Decidable p] (h : b = a + c) : N + 2 * a + (if p then q else 0) + 2 * c ≤ N + 2 * b + (if p then q + 1 else 0) := by split <;> omega

theorem vbound1 {a b c N : Nat} (h : b = a + c) : N + 2 * a + 1 + 1 + 2 * c ≤ N + 2 * b + (1 + 1) := by omega

/-- one child more -/
theorem vloop_step {A : Nat → Prop} {w w3 w4 : World} {bl bv bf bm N : Nat} {lib : List Fn} {vis vis' : Vis} {lv : Value} {n : Nd} {q : Nat} {types : List Bool} {tv v' kv : Value} (hq : q < n.kids.length) (htl : types.length = q)
    (hvis : vis' = if decide (n.kind = 84) = true ∧ q = 1 then vis.put n.name (types.getD 0 false) else vis)
    (hchk : checkL lib (decide (n.kind = 84)) n.name n.kids 0 [] vis = checkL lib (decide (n.kind = 84)) n.name (n.kids.drop q) q types vis) (hc0 : (checkN lib (at' n.kids q) vis').2 = 0)
    (hk3 : Keeps w w3 (fun k => k = bm)) (hm3 : SMapLe Tryz.prog 9 w3 bm (visM vis) (N + 2 * sizeL (n.kids.take (q + 1)) + (if n.kind = 84 then q + 1 else 0)))
    (hne : ∀ k, tv.ownBlock = some k → k ≠ w.heap.size ∧ w.heap.size ≤ k) (hzw : w.heap.size < w3.heap.size) (hbm : bm < w.heap.size)
    (c0 : w3.cell? ⟨w.heap.size, 0, none⟩ = some (.int .u8 n.kind)) (c1 : w3.cell? ⟨w.heap.size, 1, none⟩ = some (.int .i64 n.num)) (c2 : w3.cell? ⟨w.heap.size, 2, none⟩ = some (.string n.name)) (c3 : w3.cell? ⟨w.heap.size, 3, none⟩ = some kv)
    (hrow : RowB w4 w.heap.size v' (types ++ [(checkN lib (at' n.kids q) vis').1])) (hg : w3.grownBy w4 tv.ownBlock) (hn : NewOr w3 tv v') :
    VLoop A w w4 bl bv bf bm N lib vis lv n (q + 1) (types ++ [(checkN lib (at' n.kids q) vis').1]) v' kv := by
  refine ⟨by omega, by simp [htl], ?_, hrow, hk3.trans (Keeps.of_grown (S := fun k => tv.ownBlock = some k) hg (fun k e => .inl e)) (fun k e => .inr (hne k e).2), ?_, fun k hk => ?_, Nat.lt_of_lt_of_le hzw hg.size, ?_, ?_, ?_, ?_⟩
  · rw [hchk, checkL_step hq, ← hvis, if_neg (by simpa using hc0)]
  · exact hm3.kept hg (fun e => by have := (hne bm e.symm).2; omega)
  · rcases hn k hk with h | h
    · exact (hne k h).1
    · omega
  · exact hg.cell c0 (fun e => (hne _ e.symm).1 rfl)
  · exact hg.cell c1 (fun e => (hne _ e.symm).1 rfl)
  · exact hg.cell c2 (fun e => (hne _ e.symm).1 rfl)
  · exact hg.cell c3 (fun e => (hne _ e.symm).1 rfl)

set_option maxRecDepth 100000 in
set_option maxHeartbeats 6400000 in
theorem visit_upto (m : Nat) : ∀ (n : Nd) (v : Value) (A : Nat → Prop) (w : World) (bl bv bf bm N : Nat) (lib : List Fn) (vis : Vis) (lv : Value), sizeN n ≤ m → N + 2 * sizeN n ≤ 100000 → formedN n = true → NdAt A w v n → VisAt A w bl bv bf bm N lib vis lv →
    Calls Tryz.prog 121 #[v, .pointer (some ⟨bl, 0, none⟩), .pointer (some ⟨bv, 0, none⟩), .pointer (some ⟨bf, 0, none⟩)] w (VisPost A w bm N lib vis n) := by
  induction m with
  | zero => intro n v A w bl bv bf bm N lib vis lv hm; have := size_pos n; omega
  | succ m ih =>
    intro n v A w bl bv bf bm N lib vis lv hm hN hform hv hV
    have IH := Lib.hid ih
    clear ih
    obtain ⟨hok, hlen, ka, kc, rfl, hk⟩ := hv.open
    have HS : Hid (∀ j, j < n.kids.length → sizeN (at' n.kids j) ≤ m) := Lib.hid (fun j hj => by have := size_kid n j hj; omega)
    have HSE := Lib.hid (sizeN_eq n)
    have HE := Lib.hid (checkN_eq lib n vis)
    have HFO := Lib.hid hform
    have hsname := hok.2.2
    unfold maxLen at hlen
    have hA : Below w.heap.size w (w.alloc (.cells #[.int .u8 n.kind, .int .i64 n.num, .string n.name, .slice ka n.kids.length kc] 35)) := (Below.refl _ _).alloc (Nat.le_refl _) _
    have hVA := hV.below hA
    have hvA := hv.stays (Stays.of_below hA)
    obtain ⟨_, la, lc, rfl⟩ := hV.lib.form
    have l1 := hVA.lcell
    have l2 := hVA.vcell
    clear hform
    by_cases hre : reachE lib vis n.kind n.name n.kids.length = 0
    · have HRE := Lib.hid hre
      clear hre
      go_enter Tryz.func121, Tryz.ntmps121
      go_wp2_with fail
      refine (reach_any _ lib bm N vis _ n A _ hVA.lib hVA.map hvA).mono ?_
      rintro e w1 ⟨rfl, hb1⟩
      rw [HRE.out]
      have hV1 := hVA.below hb1
      have c0 : w1.cell? ⟨w.heap.size, 0, none⟩ = some (.int .u8 n.kind) := (hb1.cell (p := ⟨w.heap.size, 0, none⟩) (by simp)).trans (by simp)
      have c1 : w1.cell? ⟨w.heap.size, 1, none⟩ = some (.int .i64 n.num) := (hb1.cell (p := ⟨w.heap.size, 1, none⟩) (by simp)).trans (by simp)
      have c2 : w1.cell? ⟨w.heap.size, 2, none⟩ = some (.string n.name) := (hb1.cell (p := ⟨w.heap.size, 2, none⟩) (by simp)).trans (by simp)
      have c3 : w1.cell? ⟨w.heap.size, 3, none⟩ = some (.slice ka n.kids.length kc) := (hb1.cell (p := ⟨w.heap.size, 3, none⟩) (by simp)).trans (by simp)
      have hB1 : Below w.heap.size w w1 := hA.trans (hb1.mono (by simp))
      have hz1 := hb1.size
      simp at hz1
      have hR : VLoop A w w1 bl bv bf bm N lib vis (.slice la lib.length lc) n 0 [] (.slice none 0 0) (.slice ka n.kids.length kc) := ⟨Nat.zero_le _, rfl, rfl, RowB.nil _ _, Keeps.of_below _ hB1, hV1.map.mono (by omega), fun k hk => by simp [Value.ownBlock] at hk, by omega, c0, c1, c2, c3⟩
      clear l1 l2 hVA hvA hA hb1 hV1 hB1 hz1 c0 c1 c2
      go_wp2
      clear c3
      go_loopw [24, 8] (fun i tv wr => ∃ q types, i = .int .i64 ((q : Nat) : Int) ∧ VLoop A w wr bl bv bf bm N lib vis (.slice la lib.length lc) n q types tv (.slice ka n.kids.length kc)) (fun i _ _ => n.kids.length - (intOf i).toNat)
      case atStart => exact ⟨0, [], rfl, hR⟩
      case round =>
        clear hR
        obtain ⟨q, types, rfl, hq, htl, hchk, hrow, hkp, hmp, hne, hzw, c0, c1, c2, c3⟩ := hrel
        obtain ⟨ta, tc, rfl⟩ := hrow.formLen htl
        have HROW := Lib.hid hrow
        have HTL := Lib.hid htl
        have HCK := Lib.hid hchk
        have hVr := hV.keeps hkp hmp
        have hkr := hk.stays (hkp.stays (fun k ha _ e => hV.apart (e ▸ ha)))
        have HNE : Hid (∀ k, (Value.slice ta q tc).ownBlock = some k → k ≠ w.heap.size ∧ w.heap.size ≤ k) := Lib.hid (fun k e => ⟨hne k e, (hrow.2.lt k e).1⟩)
        have hbmw := hV.map.lt
        clear hrow htl hchk hne
        by_cases hlt : q < n.kids.length
        · obtain ⟨b, off, cap, ka', kc', he, hb, _, _, k0, k1, k2, k3, hnd⟩ := hkr.at hlt
          simp only [Value.slice.injEq] at he
          obtain ⟨rfl, -, rfl⟩ := he
          have hA2 : Below wr.heap.size wr (wr.alloc (.cells #[.int .u8 (at' n.kids q).kind, .int .i64 (at' n.kids q).num, .string (at' n.kids q).name, .slice ka' (at' n.kids q).kids.length kc'] 35)) := (Below.refl _ _).alloc (Nat.le_refl _) _
          have hVr2 := hVr.below hA2
          have f2 := hVr2.fcell
          have hst := Lib.hid (sizeL_take n.kids q hlt)
          have hsl := sizeL_take_le n.kids (q + 1)
          have hse := HSE.out
          have hkl := length_size n.kids
          have hnd2 := hnd.stays (Stays.of_below hA2)
          have hkp2 : Keeps w (wr.alloc (.cells #[.int .u8 (at' n.kids q).kind, .int .i64 (at' n.kids q).num, .string (at' n.kids q).name, .slice ka' (at' n.kids q).kids.length kc'] 35)) (fun k => k = bm) := hkp.alloc _
          have hrow2 : RowB (wr.alloc (.cells #[.int .u8 (at' n.kids q).kind, .int .i64 (at' n.kids q).num, .string (at' n.kids q).name, .slice ka' (at' n.kids q).kids.length kc'] 35)) w.heap.size _ types := ⟨HROW.out.1, row_below HROW.out.2 hA2⟩
          have HROW2 := Lib.hid hrow2
          clear hrow2 hVr hnd hkr
          by_cases hbd : n.kind = 84 ∧ q = 1
          · obtain ⟨h84, rfl⟩ := hbd
            have HN2 := Lib.hid (formed_let HFO.out h84)
            have d84 : (n.kind == 84) = true := by simpa using h84
            have hvn : vis n.name = none := by
              have := HRE.out
              unfold reachE at this
              rw [if_neg (by omega), if_pos h84] at this
              cases e : vis n.name with
              | none => rfl
              | some b => rw [e] at this; simp at this
            have HVN := Lib.hid hvn
            obtain ⟨bt, ot, ct, he, hbt, ht0⟩ := HROW2.out.bools.at (j := 0) (by have := HTL.out; omega)
            rw [HTL.out] at he
            simp only [Value.slice.injEq] at he
            obtain ⟨rfl, -, rfl⟩ := he
            rw [Nat.add_zero] at ht0
            have e2 := (hA2.cell (p := ⟨w.heap.size, 2, none⟩) hzw).trans c2
            have v2 := hVr2.vcell
            have hm2 := hVr2.map
            rw [if_pos h84] at hm2
            have hb2 : N + 2 * sizeL (n.kids.take 1) + 1 + 1 + 2 * sizeN (at' n.kids 1) ≤ 100000 := by
              have := hst.out; omega
            have H84 := Lib.hid h84
            clear h84 hvn hmp
            have q0 : (wr.alloc (.cells #[.int .u8 (at' n.kids 1).kind, .int .i64 (at' n.kids 1).num, .string (at' n.kids 1).name, .slice ka' (at' n.kids 1).kids.length kc'] 35)).cell? ⟨wr.heap.size, 0, none⟩ = some (.int .u8 (at' n.kids 1).kind) := by simp
            have q1 : (wr.alloc (.cells #[.int .u8 (at' n.kids 1).kind, .int .i64 (at' n.kids 1).num, .string (at' n.kids 1).name, .slice ka' (at' n.kids 1).kids.length kc'] 35)).cell? ⟨wr.heap.size, 1, none⟩ = some (.int .i64 (at' n.kids 1).num) := by simp
            have q2 : (wr.alloc (.cells #[.int .u8 (at' n.kids 1).kind, .int .i64 (at' n.kids 1).num, .string (at' n.kids 1).name, .slice ka' (at' n.kids 1).kids.length kc'] 35)).cell? ⟨wr.heap.size, 2, none⟩ = some (.string (at' n.kids 1).name) := by simp
            have q3 : (wr.alloc (.cells #[.int .u8 (at' n.kids 1).kind, .int .i64 (at' n.kids 1).num, .string (at' n.kids 1).name, .slice ka' (at' n.kids 1).kids.length kc'] 35)).cell? ⟨wr.heap.size, 3, none⟩ = some (.slice ka' (at' n.kids 1).kids.length kc') := by simp
            have hWs : (wr.alloc (.cells #[.int .u8 (at' n.kids 1).kind, .int .i64 (at' n.kids 1).num, .string (at' n.kids 1).name, .slice ka' (at' n.kids 1).kids.length kc'] 35)).heap.size = wr.heap.size + 1 := by simp
            have HWS := Lib.hid hWs
            clear hWs
            go_wp2_with fail
            generalize (wr.alloc (.cells #[.int .u8 (at' n.kids 1).kind, .int .i64 (at' n.kids 1).num, .string (at' n.kids 1).name, .slice ka' (at' n.kids 1).kids.length kc'] 35)) = W at *
            have hWs := HWS.out
            go_still_tail 6, (by kernel_rfl)
            change wpList _ _ _ _ _ W.drew
            go_wp2_with (refine wpl_ins MB rfl (.tmp 37) (.tmp 39) _ (.inr rfl) rfl rfl rfl (by exact hm2) hsname (by unfold maxLen; omega) ?_)
            intro w3 hm3 hg3
            have hm3' := hm3.ext (visM_put vis n.name (at' types 0))
            have hkg : Keeps W w3 (fun k => k = bm) := ⟨hg3.os, hg3.tape, hg3.output, hg3.size, fun k hk hn => hg3.block k hk (fun e => hn (by simpa using e))⟩
            have hV3 := hVr2.keeps hkg hm3'
            have hnd3 := nd_keeps hnd2 hkg hV.apart
            have f3 := hV3.fcell
            have hwr : wr.heap.size ≠ bm := by have := hkp.size; omega
            have k30 := (hkg.cell (p := ⟨wr.heap.size, 0, none⟩) (by simp; omega) hwr).trans q0
            have k31 := (hkg.cell (p := ⟨wr.heap.size, 1, none⟩) (by simp; omega) hwr).trans q1
            have k32 := (hkg.cell (p := ⟨wr.heap.size, 2, none⟩) (by simp; omega) hwr).trans q2
            have k33 := (hkg.cell (p := ⟨wr.heap.size, 3, none⟩) (by simp; omega) hwr).trans q3
            clear hWs
            clear hm3 hg3 hm2
            go_wp2_with fail
            refine (IH.out (at' n.kids 1) _ A _ bl bv bf bm _ lib (vis.put n.name (at' types 0)) _ (HS.out 1 hlt) hb2 (formed_kid HFO.out hlt) hnd3 hV3).mono ?_
            rintro e w4 ⟨rfl, hk4, hm4⟩
            have hk4' := hkg.same hk4
            have hk4w := hkp2.same hk4'
            have hz4 := hk4'.size
            have hws4 := HWS.out
            have hzw4 : w.heap.size < w4.heap.size := by omega
            have HM4 := Lib.hid hm4
            have g0 := (hk4'.cell (p := ⟨w.heap.size, 0, none⟩) (by simp; omega) (by simp; omega)).trans ((hA2.cell (p := ⟨w.heap.size, 0, none⟩) hzw).trans c0)
            have g1 := (hk4'.cell (p := ⟨w.heap.size, 1, none⟩) (by simp; omega) (by simp; omega)).trans ((hA2.cell (p := ⟨w.heap.size, 1, none⟩) hzw).trans c1)
            have g2 := (hk4'.cell (p := ⟨w.heap.size, 2, none⟩) (by simp; omega) (by simp; omega)).trans ((hA2.cell (p := ⟨w.heap.size, 2, none⟩) hzw).trans c2)
            have g3 := (hk4'.cell (p := ⟨w.heap.size, 3, none⟩) (by simp; omega) (by simp; omega)).trans ((hA2.cell (p := ⟨w.heap.size, 3, none⟩) hzw).trans c3)
            have v4 := (hk4'.cell hVr2.vlt.1 hVr2.vlt.2).trans hVr2.vcell
            clear hm4
            by_cases hce : (checkN lib (at' n.kids 1) (vis.put n.name (at' types 0))).2 = 0
            · have HCE := Lib.hid hce
              have t0 : ((checkN lib (at' n.kids 1) (vis.put n.name (at' types 0))).2 != 0) = false := by simp [hce]
              have hm5 := HM4.out hce
              have hrow4 : RowB w4 w.heap.size _ types := ⟨HROW2.out.1, row_keeps HROW2.out.2 hk4' (fun k e => by have := (HNE.out k e).2; omega)⟩
              have HR4 := Lib.hid hrow4
              clear hws4 q0 q1 q2 q3 hce hrow4 hk4 hkp2 hkp hVr2 hnd2 hA2 c0 c1 c2 c3 f2 k0 k1 k2 k3 f3 k30 k31 k32 k33 hV3 hnd3 hkg ht0 v2 e2
              go_wp2_with (refine wpl_drop MB rfl (.tmp 53) (.tmp 55) rfl rfl rfl hm5 hsname ?_)
              intro w5 hm6 hg6
              have hm6' := hm6.ext (visM_del vis n.name (at' types 0) HVN.out)
              have hk5 : Keeps w4 w5 (fun k => k = bm) := Keeps.of_grown hg6 (fun k e => .inl (by simpa using e.symm))
              have hk5w := hk4w.same hk5
              have hz5 := hk5.size
              have hrow5 : RowB w5 w.heap.size _ types := ⟨HR4.out.1, row_keeps HR4.out.2 hk5 (fun k e => by have := (HNE.out k e).2; omega)⟩
              have HR5 := Lib.hid hrow5
              have j0 := (hk5.cell (p := ⟨w.heap.size, 0, none⟩) (by simp; omega) (by simp; omega)).trans g0
              have j1 := (hk5.cell (p := ⟨w.heap.size, 1, none⟩) (by simp; omega) (by simp; omega)).trans g1
              have j2 := (hk5.cell (p := ⟨w.heap.size, 2, none⟩) (by simp; omega) (by simp; omega)).trans g2
              have j3 := (hk5.cell (p := ⟨w.heap.size, 3, none⟩) (by simp; omega) (by simp; omega)).trans g3
              clear hrow5 hm6 hg6 hm5 g0 g1 g2 g3 v4
              go_wp2_with (at_builtin; refine wpl_appendB rfl (.tmp 56) (.tmp 58) rfl rfl rfl rfl HR5.out (by have := HTL.out; omega) (by omega) ?_)
              intro v7 w7 h7 hg7 hn7
              have hR := vloop_step (A := A) (bl := bl) (bv := bv) (bf := bf) (lv := .slice la lib.length lc) hlt HTL.out (if_pos ⟨by simpa using H84.out, rfl⟩).symm HCK.out HCE.out hk5w (hm6'.mono (by rw [if_pos H84.out]; exact vbound1 hst.out)) HNE.out (by omega) hbmw j0 j1 j2 j3 h7 hg7 hn7
              obtain ⟨a7, c7, rfl⟩ := h7.formLen (q := 1 + 1) (by rw [List.length_append, HTL.out]; rfl)
              clear h7 hg7 hn7 j0 j1 j2 j3 hm6'
              go_wp2
              go_roundw
              case rel => exact ⟨1 + 1, _, by go_num, hR⟩
              case measure => simp [intOf]; have := HN2.out; omega
            · have t0 : ((checkN lib (at' n.kids 1) (vis.put n.name (at' types 0))).2 != 0) = true := by simpa using hce
              have HF := Lib.hid (show checkN lib n vis = (false, (checkN lib (at' n.kids 1) (vis.put n.name (at' types 0))).2) by
                rw [HE.out, if_neg (by simpa using HRE.out), HCK.out, checkL_step hlt, if_pos (show decide (n.kind = 84) = true ∧ 1 = 1 from ⟨by simpa using H84.out, rfl⟩)]
                rw [if_pos (show (checkN lib (at' n.kids 1) (vis.put n.name (types.getD 0 false))).2 ≠ 0 from hce)]
                exact if_pos hce)
              have HCE := Lib.hid hce
              clear hws4 q0 q1 q2 q3 hce hkp2 hkp hVr2 hnd2 hA2 c0 c1 c2 c3 f2 k0 k1 k2 k3 f3 k30 k31 k32 k33 hV3 hnd3 hkg ht0 v2 e2
              go_wp2
              go_ret2
              refine ⟨?_, hk4w, fun h => absurd h ?_⟩
              · rw [HF.out]; rfl
              · rw [HF.out]; exact HCE.out
          · have HV : Hid ((if decide (n.kind = 84) = true ∧ q = 1 then vis.put n.name (types.getD 0 false) else vis) = vis) := Lib.hid (if_neg (by simpa using hbd))
            have hNb : N + 2 * sizeL (n.kids.take q) + (if n.kind = 84 then q else 0) + 2 * sizeN (at' n.kids q) ≤ 100000 := by
              have := hst.out
              by_cases h84 : n.kind = 84
              · have := formed_let HFO.out h84
                rw [if_pos h84]; omega
              · rw [if_neg h84]; omega
            by_cases h84 : n.kind = 84
            · have d84 : (n.kind == 84) = true := by simpa using h84
              have hq0 : q ≠ 1 := fun e => hbd ⟨h84, e⟩
              have dq : ((q : Int) == 1) = false := by simp; omega
              have H84 := Lib.hid h84
              clear h84 hbd
              go_wp2_with fail
              refine (IH.out (at' n.kids q) _ A _ bl bv bf bm _ lib vis _ (HS.out q hlt) hNb (formed_kid HFO.out hlt) hnd2 hVr2).mono ?_
              rintro e w3 ⟨rfl, hk3, hm3⟩
              have hk3w := hkp2.same hk3
              have hz3 := hk3.size
              simp at hz3
              have HM3 := Lib.hid hm3
              have d0 := (hk3.cell (p := ⟨w.heap.size, 0, none⟩) (by simp; omega) (by simp; omega)).trans ((hA2.cell (p := ⟨w.heap.size, 0, none⟩) hzw).trans c0)
              have d1 := (hk3.cell (p := ⟨w.heap.size, 1, none⟩) (by simp; omega) (by simp; omega)).trans ((hA2.cell (p := ⟨w.heap.size, 1, none⟩) hzw).trans c1)
              have d3 := (hk3.cell (p := ⟨w.heap.size, 3, none⟩) (by simp; omega) (by simp; omega)).trans ((hA2.cell (p := ⟨w.heap.size, 3, none⟩) hzw).trans c3)
              have d2 := (hk3.cell (p := ⟨w.heap.size, 2, none⟩) (by simp; omega) (by simp; omega)).trans ((hA2.cell (p := ⟨w.heap.size, 2, none⟩) hzw).trans c2)
              clear hm3
              by_cases hce : (checkN lib (at' n.kids q) vis).2 = 0
              · have HCE := Lib.hid hce
                have t0 : ((checkN lib (at' n.kids q) vis).2 != 0) = false := by simp [hce]
                have hrow3 : RowB w3 w.heap.size _ types := ⟨HROW2.out.1, row_keeps HROW2.out.2 hk3 (fun k e => by have := (HNE.out k e).2; omega)⟩
                have HR3 := Lib.hid hrow3
                have hm4 := HM3.out HCE.out
                have HM4 := Lib.hid hm4
                clear hce hrow3 hm4 hk3 hkp2 hkp hmp hVr2 hnd2 hA2 c0 c1 c2 c3 f2 k0 k1 k2 k3
                go_wp2_with (at_builtin; refine wpl_appendB rfl (.tmp 56) (.tmp 58) rfl rfl rfl rfl HR3.out (by have := HTL.out; omega) (by omega) ?_)
                intro v5 w5 h5 hg5 hn5
                have hR := vloop_step (A := A) (bl := bl) (bv := bv) (bf := bf) (lv := .slice la lib.length lc) hlt HTL.out HV.out.symm HCK.out HCE.out hk3w (HM4.out.mono (vbound hst.out)) HNE.out (by omega) hbmw d0 d1 d2 d3 h5 hg5 hn5
                obtain ⟨a5, c5, rfl⟩ := h5.formLen (q := q + 1) (by rw [List.length_append, HTL.out]; rfl)
                clear h5 hg5 hn5 d0 d1 d2 d3
                go_wp2
                go_roundw
                case rel => exact ⟨q + 1, _, by go_num, hR⟩
                case measure => simp [intOf]; omega
              · have t0 : ((checkN lib (at' n.kids q) vis).2 != 0) = true := by simpa using hce
                have HF := Lib.hid (show checkN lib n vis = (false, (checkN lib (at' n.kids q) vis).2) by
                  rw [HE.out, if_neg (by simpa using HRE.out), HCK.out, checkL_step hlt, HV.out, if_pos hce, if_pos hce])
                have HCE := Lib.hid hce
                clear hce hkp2 hkp hmp hVr2 hnd2 hA2 c0 c1 c2 c3 f2 k0 k1 k2 k3
                go_wp2
                go_ret2
                refine ⟨?_, hk3w, fun h => absurd h ?_⟩
                · rw [HF.out]; rfl
                · rw [HF.out]; exact HCE.out
            · have d84 : (n.kind == 84) = false := by simpa using h84
              have H84 := Lib.hid h84
              clear h84 hbd
              go_wp2_with fail
              refine (IH.out (at' n.kids q) _ A _ bl bv bf bm _ lib vis _ (HS.out q hlt) hNb (formed_kid HFO.out hlt) hnd2 hVr2).mono ?_
              rintro e w3 ⟨rfl, hk3, hm3⟩
              have hk3w := hkp2.same hk3
              have hz3 := hk3.size
              simp at hz3
              have HM3 := Lib.hid hm3
              have d0 := (hk3.cell (p := ⟨w.heap.size, 0, none⟩) (by simp; omega) (by simp; omega)).trans ((hA2.cell (p := ⟨w.heap.size, 0, none⟩) hzw).trans c0)
              have d1 := (hk3.cell (p := ⟨w.heap.size, 1, none⟩) (by simp; omega) (by simp; omega)).trans ((hA2.cell (p := ⟨w.heap.size, 1, none⟩) hzw).trans c1)
              have d3 := (hk3.cell (p := ⟨w.heap.size, 3, none⟩) (by simp; omega) (by simp; omega)).trans ((hA2.cell (p := ⟨w.heap.size, 3, none⟩) hzw).trans c3)
              have d2 := (hk3.cell (p := ⟨w.heap.size, 2, none⟩) (by simp; omega) (by simp; omega)).trans ((hA2.cell (p := ⟨w.heap.size, 2, none⟩) hzw).trans c2)
              clear hm3
              by_cases hce : (checkN lib (at' n.kids q) vis).2 = 0
              · have HCE := Lib.hid hce
                have t0 : ((checkN lib (at' n.kids q) vis).2 != 0) = false := by simp [hce]
                have hrow3 : RowB w3 w.heap.size _ types := ⟨HROW2.out.1, row_keeps HROW2.out.2 hk3 (fun k e => by have := (HNE.out k e).2; omega)⟩
                have HR3 := Lib.hid hrow3
                have hm4 := HM3.out HCE.out
                have HM4 := Lib.hid hm4
                clear hce hrow3 hm4 hk3 hkp2 hkp hmp hVr2 hnd2 hA2 c0 c1 c2 c3 f2 k0 k1 k2 k3
                go_wp2_with (at_builtin; refine wpl_appendB rfl (.tmp 56) (.tmp 58) rfl rfl rfl rfl HR3.out (by have := HTL.out; omega) (by omega) ?_)
                intro v5 w5 h5 hg5 hn5
                have hR := vloop_step (A := A) (bl := bl) (bv := bv) (bf := bf) (lv := .slice la lib.length lc) hlt HTL.out HV.out.symm HCK.out HCE.out hk3w (HM4.out.mono (vbound hst.out)) HNE.out (by omega) hbmw d0 d1 d2 d3 h5 hg5 hn5
                obtain ⟨a5, c5, rfl⟩ := h5.formLen (q := q + 1) (by rw [List.length_append, HTL.out]; rfl)
                clear h5 hg5 hn5 d0 d1 d2 d3
                go_wp2
                go_roundw
                case rel => exact ⟨q + 1, _, by go_num, hR⟩
                case measure => simp [intOf]; omega
              · have t0 : ((checkN lib (at' n.kids q) vis).2 != 0) = true := by simpa using hce
                have HF := Lib.hid (show checkN lib n vis = (false, (checkN lib (at' n.kids q) vis).2) by
                  rw [HE.out, if_neg (by simpa using HRE.out), HCK.out, checkL_step hlt, HV.out, if_pos hce, if_pos hce])
                have HCE := Lib.hid hce
                clear hce hkp2 hkp hmp hVr2 hnd2 hA2 c0 c1 c2 c3 f2 k0 k1 k2 k3
                go_wp2
                go_ret2
                refine ⟨?_, hk3w, fun h => absurd h ?_⟩
                · rw [HF.out]; rfl
                · rw [HF.out]; exact HCE.out
        · obtain rfl : q = n.kids.length := by omega
          have HCL : Hid (checkL lib (decide (n.kind = 84)) n.name n.kids 0 [] vis = (types, 0)) := Lib.hid (by rw [HCK.out, List.drop_length]; rfl)
          have hmp2 : SMapLe Tryz.prog 9 wr bm (visM vis) (N + 2 * sizeN n) := hmp.mono (by
            rw [HSE.out, List.take_length]
            by_cases h84 : n.kind = 84
            · have := formed_let HFO.out h84
              rw [if_pos h84]; omega
            · rw [if_neg h84]; omega)
          have lv2 := hVr.lcell
          have vv2 := hVr.vcell
          by_cases h81 : n.kind = 81
          · have d81 : (n.kind == 81) = true := by simpa using h81
            have HF : Hid (checkN lib n vis = ((vis n.name).getD false, 0)) := Lib.hid (by rw [HE.out, if_neg (by simpa using HRE.out), HCL.out]; simp [h81])
            have hvg := Lib.hid (visM_get vis n.name)
            clear h81 hmp
            go_wp2_with (refine wpl_find MB rfl (.tmp 64) (.tmp 66) false rfl rfl rfl hmp2 hsname (r := .bool ((vis n.name).getD false)) hvg.out ?_)
            go_ret2
            refine ⟨?_, hkp, fun _ => hmp2⟩
            rw [HF.out]; rfl
          · have d81 : (n.kind == 81) = false := by simpa using h81
            have HF : Hid (checkN lib n vis = resultT lib n.kind n.name types) := Lib.hid (by rw [HE.out, if_neg (by simpa using HRE.out), HCL.out]; simp [h81])
            clear h81 hmp
            have hndr : NdAt A wr (.agg #[.int .u8 n.kind, .int .i64 n.num, .string n.name, .slice ka n.kids.length kc]) n := nd_keeps hv hkp hV.apart
            go_wp2_with fail
            by_cases h85 : n.kind = 85
            · have hre85 : ¬ findF lib n.name < 0 ∧ n.kids.length = (fnAt lib (findF lib n.name)).params.length := by
                have := HRE.out
                unfold reachE at this
                rw [if_neg (by omega), if_neg (by omega), if_pos h85] at this
                by_cases h0 : findF lib n.name < 0
                · rw [if_pos h0] at this; omega
                · rw [if_neg h0] at this
                  refine ⟨h0, ?_⟩
                  apply Classical.byContradiction
                  intro hne; rw [if_pos hne] at this; omega
              have hkl := length_size n.kids
              have hse := HSE.out
              refine (result_call _ _ lib _ n types A wr hVr.lib HROW.out.bools hndr h85 (by omega) (by omega)).mono ?_
              rintro e w6 ⟨rfl, hb6⟩
              clear h85 hre85 hkl hse
              go_wp2
              go_ret2
              refine ⟨?_, hkp.same (Keeps.of_below _ hb6), fun _ => hmp2.below hb6⟩
              rw [HF.out]; rfl
            · refine (result_simple _ _ lib _ n types A wr HROW.out.bools hndr h85 (by
                intro h
                have hk2 : 2 ≤ n.kids.length := by
                  have := HFO.out
                  rw [formedN_eq, Bool.and_eq_true] at this
                  have hf := this.1
                  rcases h with h | h
                  · rw [h] at hf; simp [formB] at hf; omega
                  · rw [h] at hf; simp [formB] at hf; omega
                have := HTL.out; omega)).mono ?_
              rintro e w6 ⟨rfl, hb6⟩
              go_wp2
              go_ret2
              refine ⟨?_, hkp.same (Keeps.of_below _ hb6), fun _ => hmp2.below hb6⟩
              rw [HF.out]; rfl
    · have HRE := Lib.hid hre
      have hd : (reachE lib vis n.kind n.name n.kids.length != 0) = true := by simpa using hre
      clear hre
      go_enter Tryz.func121, Tryz.ntmps121
      go_wp2_with fail
      refine (reach_any _ lib bm N vis _ n A _ hVA.lib hVA.map hvA).mono ?_
      rintro e w1 ⟨rfl, hb1⟩
      go_wp2
      go_ret2
      have hc : checkN lib n vis = (false, reachE lib vis n.kind n.name n.kids.length) := by rw [HE.out, if_pos HRE.out]
      refine ⟨?_, Keeps.of_below _ (hA.trans (hb1.mono (by simp))), fun h => absurd h ?_⟩
      · rw [hc]; rfl
      · rw [hc]; exact HRE.out
end Go.Proofs.YtehmmokkjojggabGreatDoor
/- Walks: check, function, Valid. -/
namespace Go.Proofs.YtehmmokkjojggabGreatDoor
set_option linter.unusedVariables false
open Go.RowKit

/-- blocks that were there -/
def Old (A : Nat → Prop) (w : World) : Nat → Prop := fun k => A k ∧ k < w.heap.size
theorem stays_old {A : Nat → Prop} {w w' : World} (h : Below w.heap.size w w') : Stays A (Old A w) w w' := ⟨h.size, fun b hb ha => ⟨h.block b hb, ha, hb⟩⟩

theorem four0 (w : World) (a b c d : Obj) : ((((w.alloc a).alloc b).alloc c).alloc d).heap[w.heap.size]? = some a := by
  rw [Below.heap_alloc _ _ _ (by simp; omega), Below.heap_alloc _ _ _ (by simp; omega), Below.heap_alloc _ _ _ (by simp)]; exact heap_alloc_new w a
theorem four1 (w : World) (a b c d : Obj) : ((((w.alloc a).alloc b).alloc c).alloc d).heap[w.heap.size + 1]? = some b := by
  rw [Below.heap_alloc _ _ _ (by simp)]; exact at_mid w a b c
theorem four3 (w : World) (a b c d : Obj) : ((((w.alloc a).alloc b).alloc c).alloc d).heap[w.heap.size + 1 + 1 + 1]? = some d := by
  have := heap_alloc_new (((w.alloc a).alloc b).alloc c) d
  simpa using this
theorem cell_blk {w : World} {b : Nat} {arr : Array Value} {t : TypeId} (h : w.heap[b]? = some (.cells arr t (0, 0))) (i : Nat) {x : Value} (hx : arr[i]? = some x) : w.cell? ⟨b, i, none⟩ = some x := by simp [World.cell?, h, hx]

theorem parsV_snoc (l : List Par) (k : Nat) (h : k < l.length) : parsV (l.take (k + 1)) = (parsV (l.take k)).put (at' l k).name (at' l k).list := by
  rw [List.take_add_one, List.getElem?_eq_getElem h, parsV, parsV, List.foldl_append, at_eq h]; rfl

set_option maxRecDepth 100000 in
set_option maxHeartbeats 3200000 in
theorem check_any (lv pv v : Value) (lib : List Fn) (l : List Par) (n : Nd) (A : Nat → Prop) (w : World) (hl : FnsAt A w lv lib) (hp : ParsAt A w pv l) (hv : NdAt A w v n) (hform : formedN n = true) (hsz : sizeN n ≤ 20000) (hpl : l.length ≤ 1000) :
    Calls Tryz.prog 94 #[lv, pv, v] w fun e w' => e = .returned (.tuple #[.bool (checkN lib n (parsV l)).1, .int .i64 (checkN lib n (parsV l)).2]) ∧ Below w.heap.size w w' := by
  obtain ⟨hok, hlen, ka, kc, rfl, hk⟩ := hv.open
  obtain ⟨_, la, lc, rfl⟩ := hl.form
  obtain ⟨_, pa, pc, rfl⟩ := hp.form
  have HFO := Lib.hid hform
  clear hform
  have hmm := @run_makeMap Tryz.prog
  have hW : Below w.heap.size w ((((w.alloc (.cells #[.slice la lib.length lc] 22)).alloc (.cells #[.int .u8 n.kind, .int .i64 n.num, .string n.name, .slice ka n.kids.length kc] 35)).alloc (.map #[] 0)).alloc (.cells #[.map (some (w.heap.size + 1 + 1))] 152)) := ((((Below.refl _ _).alloc (Nat.le_refl _) _).alloc (by simp) _).alloc (by simp; omega) _).alloc (by simp; omega) _
  have hm0 : SMapLe Tryz.prog 9 ((((w.alloc (.cells #[.slice la lib.length lc] 22)).alloc (.cells #[.int .u8 n.kind, .int .i64 n.num, .string n.name, .slice ka n.kids.length kc] 35)).alloc (.map #[] 0)).alloc (.cells #[.map (some (w.heap.size + 1 + 1))] 152)) (w.heap.size + 1 + 1) (visM (parsV (l.take 0))) 0 := by
    have := (SMapLe.made Tryz.prog 9 ((w.alloc (.cells #[.slice la lib.length lc] 22)).alloc (.cells #[.int .u8 n.kind, .int .i64 n.num, .string n.name, .slice ka n.kids.length kc] 35))).below ((Below.refl _ _).alloc (Nat.le_refl _) (.cells #[.map (some (w.heap.size + 1 + 1))] 152))
    simp at this
    exact this
  have q0 : ((((w.alloc (.cells #[.slice la lib.length lc] 22)).alloc (.cells #[.int .u8 n.kind, .int .i64 n.num, .string n.name, .slice ka n.kids.length kc] 35)).alloc (.map #[] 0)).alloc (.cells #[.map (some (w.heap.size + 1 + 1))] 152)).cell? ⟨w.heap.size, 0, none⟩ = some (.slice la lib.length lc) := cell_blk (four0 _ _ _ _ _) 0 rfl
  have n0 : ((((w.alloc (.cells #[.slice la lib.length lc] 22)).alloc (.cells #[.int .u8 n.kind, .int .i64 n.num, .string n.name, .slice ka n.kids.length kc] 35)).alloc (.map #[] 0)).alloc (.cells #[.map (some (w.heap.size + 1 + 1))] 152)).cell? ⟨w.heap.size + 1, 0, none⟩ = some (.int .u8 n.kind) := cell_blk (four1 _ _ _ _ _) 0 rfl
  have n1 : ((((w.alloc (.cells #[.slice la lib.length lc] 22)).alloc (.cells #[.int .u8 n.kind, .int .i64 n.num, .string n.name, .slice ka n.kids.length kc] 35)).alloc (.map #[] 0)).alloc (.cells #[.map (some (w.heap.size + 1 + 1))] 152)).cell? ⟨w.heap.size + 1, 1, none⟩ = some (.int .i64 n.num) := cell_blk (four1 _ _ _ _ _) 1 rfl
  have n2 : ((((w.alloc (.cells #[.slice la lib.length lc] 22)).alloc (.cells #[.int .u8 n.kind, .int .i64 n.num, .string n.name, .slice ka n.kids.length kc] 35)).alloc (.map #[] 0)).alloc (.cells #[.map (some (w.heap.size + 1 + 1))] 152)).cell? ⟨w.heap.size + 1, 2, none⟩ = some (.string n.name) := cell_blk (four1 _ _ _ _ _) 2 rfl
  have n3 : ((((w.alloc (.cells #[.slice la lib.length lc] 22)).alloc (.cells #[.int .u8 n.kind, .int .i64 n.num, .string n.name, .slice ka n.kids.length kc] 35)).alloc (.map #[] 0)).alloc (.cells #[.map (some (w.heap.size + 1 + 1))] 152)).cell? ⟨w.heap.size + 1, 3, none⟩ = some (.slice ka n.kids.length kc) := cell_blk (four1 _ _ _ _ _) 3 rfl
  have q3 : ((((w.alloc (.cells #[.slice la lib.length lc] 22)).alloc (.cells #[.int .u8 n.kind, .int .i64 n.num, .string n.name, .slice ka n.kids.length kc] 35)).alloc (.map #[] 0)).alloc (.cells #[.map (some (w.heap.size + 1 + 1))] 152)).cell? ⟨w.heap.size + 1 + 1 + 1, 0, none⟩ = some (.map (some (w.heap.size + 1 + 1))) := cell_blk (four3 _ _ _ _ _) 0 rfl
  have HWS : Hid (((((w.alloc (.cells #[.slice la lib.length lc] 22)).alloc (.cells #[.int .u8 n.kind, .int .i64 n.num, .string n.name, .slice ka n.kids.length kc] 35)).alloc (.map #[] 0)).alloc (.cells #[.map (some (w.heap.size + 1 + 1))] 152)).heap.size = w.heap.size + 4) := Lib.hid (by simp)
  go_enter Tryz.func94, Tryz.ntmps94
  go_wp2
  clear hmm
  generalize ((((w.alloc (.cells #[.slice la lib.length lc] 22)).alloc (.cells #[.int .u8 n.kind, .int .i64 n.num, .string n.name, .slice ka n.kids.length kc] 35)).alloc (.map #[] 0)).alloc (.cells #[.map (some (w.heap.size + 1 + 1))] 152)) = W at *
  go_loopw [15] (fun i wr => ∃ k : Nat, i = .int .i64 k ∧ k ≤ l.length ∧ Keeps W wr (fun j => j = w.heap.size + 1 + 1) ∧ SMapLe Tryz.prog 9 wr (w.heap.size + 1 + 1) (visM (parsV (l.take k))) k) (fun i _ => l.length - (intOf i).toNat)
  case atStart => exact ⟨0, rfl, Nat.zero_le _, Keeps.refl _ _, hm0⟩
  case round =>
    clear hm0
    obtain ⟨k, rfl, hk1, hkp, hm⟩ := hrel
    have hws := HWS.out
    have hzk := hkp.size
    have v3 := (hkp.cell (p := ⟨w.heap.size + 1 + 1 + 1, 0, none⟩) (by simp; omega) (by simp; try omega)).trans q3
    have hbl : Below w.heap.size w wr := hW.trans (hkp.below (fun j e => by omega) (by omega))
    by_cases hlt : k < l.length
    · obtain ⟨b, off, cap', he, hb, _, _, c0, c1, hs⟩ := (hp.stays (Stays.of_below hbl)).at hlt
      simp only [Value.slice.injEq] at he
      obtain ⟨rfl, -, rfl⟩ := he
      have hmA := hm.below ((Below.refl _ _).alloc (Nat.le_refl _) (.cells #[.string (at' l k).name, .bool (at' l k).list] 57))
      have HPV := Lib.hid (parsV_snoc l k hlt)
      have v3A : (wr.alloc (.cells #[.string (at' l k).name, .bool (at' l k).list] 57)).cell? ⟨w.heap.size + 1 + 1 + 1, 0, none⟩ = some (.map (some (w.heap.size + 1 + 1))) := (((Below.refl _ _).alloc (Nat.le_refl _) _).cell (p := ⟨w.heap.size + 1 + 1 + 1, 0, none⟩) (by simp; omega)).trans v3
      have hkp2 := hkp.alloc (.cells #[.string (at' l k).name, .bool (at' l k).list] 57)
      clear hws hm
      go_wp2_with (refine wpl_ins MB rfl (.tmp 19) (.tmp 21) _ (.inr rfl) rfl rfl rfl hmA hs (by unfold maxLen; omega) ?_; intro w3 hm3 hg3; have hm4 := hm3.ext (visM_put (parsV (l.take k)) (at' l k).name (at' l k).list); have hkp3 := hkp2.same (Keeps.of_grown hg3 (fun j e => .inl (by simpa using e.symm))))
      go_roundw
      case rel => exact ⟨k + 1, by go_num, by omega, hkp3, by rw [HPV.out]; exact hm4⟩
      case measure => simp [intOf]; omega
    · obtain rfl : k = l.length := by omega
      rw [List.take_length] at hm
      have e0 := (hkp.cell (p := ⟨w.heap.size, 0, none⟩) (by simp; omega) (by simp; try omega)).trans q0
      have m0 := (hkp.cell (p := ⟨w.heap.size + 1, 0, none⟩) (by simp; omega) (by simp; try omega)).trans n0
      have m1 := (hkp.cell (p := ⟨w.heap.size + 1, 1, none⟩) (by simp; omega) (by simp; try omega)).trans n1
      have m2 := (hkp.cell (p := ⟨w.heap.size + 1, 2, none⟩) (by simp; omega) (by simp; try omega)).trans n2
      have m3 := (hkp.cell (p := ⟨w.heap.size + 1, 3, none⟩) (by simp; omega) (by simp; try omega)).trans n3
      have hmf : ∀ (fn : Go.Fn) (first cap : Array Value) (w : World), (Instr.makeFunc fn first cap).run Tryz.prog w = .ok (.func fn first cap) w := fun _ _ _ _ => rfl
      have hA : Below wr.heap.size wr (wr.alloc (.cells #[.func (.func 121) #[] #[.pointer (some ⟨w.heap.size, 0, none⟩), .pointer (some ⟨w.heap.size + 1 + 1 + 1, 0, none⟩), .pointer (some ⟨wr.heap.size, 0, none⟩)]] 153)) := (Below.refl _ _).alloc (Nat.le_refl _) _
      have hblA := hbl.trans (hA.mono (by omega))
      have hlo : w.heap.size + 4 ≤ wr.heap.size := by omega
      have hVA : VisAt (Old A w) (wr.alloc (.cells #[.func (.func 121) #[] #[.pointer (some ⟨w.heap.size, 0, none⟩), .pointer (some ⟨w.heap.size + 1 + 1 + 1, 0, none⟩), .pointer (some ⟨wr.heap.size, 0, none⟩)]] 153)) w.heap.size (w.heap.size + 1 + 1 + 1) wr.heap.size (w.heap.size + 1 + 1) l.length lib (parsV l) (.slice la lib.length lc) :=
        ⟨(hA.cell (p := ⟨w.heap.size, 0, none⟩) (by simp; omega)).trans e0, (hA.cell (p := ⟨w.heap.size + 1 + 1 + 1, 0, none⟩) (by simp; omega)).trans v3, by simp, ⟨by simp; omega, by omega⟩, ⟨by simp; omega, by omega⟩, ⟨by simp, by omega⟩, hm.below hA, hl.stays (stays_old hblA), fun h => by have := h.2; omega⟩
      have hndA := hv.stays (stays_old (A := A) hblA)
      have o0 := (hA.cell (p := ⟨w.heap.size + 1, 0, none⟩) (by simp; omega)).trans m0
      have o1 := (hA.cell (p := ⟨w.heap.size + 1, 1, none⟩) (by simp; omega)).trans m1
      have o2 := (hA.cell (p := ⟨w.heap.size + 1, 2, none⟩) (by simp; omega)).trans m2
      have o3 := (hA.cell (p := ⟨w.heap.size + 1, 3, none⟩) (by simp; omega)).trans m3
      clear q0 n0 n1 n2 n3 q3
      go_wp2_with fail
      refine (visit_upto (sizeN n) n _ (Old A w) _ w.heap.size (w.heap.size + 1 + 1 + 1) wr.heap.size (w.heap.size + 1 + 1) l.length lib (parsV l) _ (Nat.le_refl _) (by omega) HFO.out hndA hVA).mono ?_
      rintro e w5 ⟨rfl, hk5, _⟩
      have hB5 : Below w.heap.size w w5 := hblA.trans (hk5.below (fun j e => by omega) (by simp; omega))
      clear hVA hndA hA hblA
      go_wp2
      go_ret2
      exact ⟨rfl, hB5⟩

/-- a library that is not too large -/
def Modest (lib : List Fn) : Prop := ∀ j, j < lib.length → sizeN (at' lib j).body ≤ 20000

set_option maxRecDepth 100000 in
set_option maxHeartbeats 6400000 in
theorem function_any (lv : Value) (lib : List Fn) (i : Nat) (A : Nat → Prop) (w : World) (hl : FnsAt A w lv lib) (hi : i < lib.length) (hmod : Modest lib) :
    Calls Tryz.prog 57 #[lv, .int .i64 i] w fun e w' => e = .returned (.int .i64 (fnE lib i)) ∧ Below w.heap.size w w' := by
  obtain ⟨hll, la, lc, rfl⟩ := hl.form
  unfold maxLen at hll
  obtain ⟨b, off, cap', pa, pc, ka, kc, he, hb, _, _, c0, c1, c2, c3, c4, c5, c6, hs, hp, hn⟩ := hl.at hi
  simp only [Value.slice.injEq] at he
  obtain ⟨rfl, -, rfl⟩ := he
  have hm := hmod i hi
  clear hmod
  generalize hf : at' lib i = f at *
  have HF := Lib.hid hf
  clear hf
  have HE : Hid (fnE lib i = if 30 ≤ i then 5 else if !nameB f.name then 3 else if findF lib f.name < i then 22
      else if parsE f.params ≠ 0 then parsE f.params
      else if !formedN f.body then 3 else if 80 < depthN f.body then 19 else if 2000 < sizeN f.body then 5
      else if (checkN lib f.body (parsV f.params)).2 ≠ 0 then (checkN lib f.body (parsV f.params)).2
      else if (checkN lib f.body (parsV f.params)).1 ≠ f.list then 7 else 0) := Lib.hid (by rw [← HF.out]; rfl)
  have b0 : (0 : Int) ≤ (i : Int) := by omega
  have b1 : (i : Int) < (lib.length : Int) := by omega
  have hA : Below w.heap.size w (w.alloc (.cells #[.string f.name, .slice pa f.params.length pc, .bool f.list, .int .u8 f.body.kind, .int .i64 f.body.num, .string f.body.name, .slice ka f.body.kids.length kc] 37)) := (Below.refl _ _).alloc (Nat.le_refl _) _
  by_cases h30 : 30 ≤ i
  · have d1 : decide (30 ≤ (i : Int)) = true := by simp; omega
    go_enter Tryz.func57, Tryz.ntmps57
    go_wp2
    go_ret
    rw [HE.out, if_pos h30]
    exact ⟨rfl, hA⟩
  · have d1 : decide (30 ≤ (i : Int)) = false := by simp; omega
    go_enter Tryz.func57, Tryz.ntmps57
    go_wp2_with fail
    refine (isName_any f.name _ hs).mono ?_
    rintro e w1 ⟨rfl, hb1⟩
    have hB1 : Below w.heap.size w w1 := hA.trans (hb1.mono (by simp))
    have hz1 := hB1.size
    have hz1' := hb1.size
    simp at hz1'
    have x0 : w1.cell? ⟨w.heap.size, 0, none⟩ = some (.string f.name) := (hb1.cell (p := ⟨w.heap.size, 0, none⟩) (by simp)).trans (by simp)
    have x1 : w1.cell? ⟨w.heap.size, 1, none⟩ = some (.slice pa f.params.length pc) := (hb1.cell (p := ⟨w.heap.size, 1, none⟩) (by simp)).trans (by simp)
    have x2 : w1.cell? ⟨w.heap.size, 2, none⟩ = some (.bool f.list) := (hb1.cell (p := ⟨w.heap.size, 2, none⟩) (by simp)).trans (by simp)
    have x3 : w1.cell? ⟨w.heap.size, 3, none⟩ = some (.int .u8 f.body.kind) := (hb1.cell (p := ⟨w.heap.size, 3, none⟩) (by simp)).trans (by simp)
    have x4 : w1.cell? ⟨w.heap.size, 4, none⟩ = some (.int .i64 f.body.num) := (hb1.cell (p := ⟨w.heap.size, 4, none⟩) (by simp)).trans (by simp)
    have x5 : w1.cell? ⟨w.heap.size, 5, none⟩ = some (.string f.body.name) := (hb1.cell (p := ⟨w.heap.size, 5, none⟩) (by simp)).trans (by simp)
    have x6 : w1.cell? ⟨w.heap.size, 6, none⟩ = some (.slice ka f.body.kids.length kc) := (hb1.cell (p := ⟨w.heap.size, 6, none⟩) (by simp)).trans (by simp)
    clear c0 c1 c2 c3 c4 c5 c6 hA hb1
    cases hnm : nameB f.name with
    | false =>
      have HN := Lib.hid hnm
      clear hnm
      go_wp2
      go_ret
      rw [HE.out, if_neg h30, HN.out]
      exact ⟨rfl, hB1⟩
    | true =>
      have HN := Lib.hid hnm
      clear hnm
      go_wp2_with fail
      refine (find_any _ lib f.name A w1 (hl.stays (Stays.of_below hB1))).mono ?_
      rintro e w2 ⟨rfl, hb2⟩
      have hB2 : Below w.heap.size w w2 := hB1.trans (hb2.mono hz1)
      have hz2 := hb2.size
      have y1 := (hb2.cell (p := ⟨w.heap.size, 1, none⟩) (by simp; omega)).trans x1
      have y2 := (hb2.cell (p := ⟨w.heap.size, 2, none⟩) (by simp; omega)).trans x2
      have y3 := (hb2.cell (p := ⟨w.heap.size, 3, none⟩) (by simp; omega)).trans x3
      have y4 := (hb2.cell (p := ⟨w.heap.size, 4, none⟩) (by simp; omega)).trans x4
      have y5 := (hb2.cell (p := ⟨w.heap.size, 5, none⟩) (by simp; omega)).trans x5
      have y6 := (hb2.cell (p := ⟨w.heap.size, 6, none⟩) (by simp; omega)).trans x6
      clear x0 x1 x2 x3 x4 x5 x6 hb2 hB1
      by_cases hfi : findF lib f.name < i
      · have d2 : decide (findF lib f.name < (i : Int)) = true := by simpa using hfi
        have HFI := Lib.hid hfi
        clear hfi
        go_wp2
        go_ret
        rw [HE.out, if_neg h30, HN.out, if_neg (by simp), if_pos HFI.out]
        exact ⟨rfl, hB2⟩
      · have d2 : decide (findF lib f.name < (i : Int)) = false := by simpa using hfi
        have HFI := Lib.hid hfi
        clear hfi
        go_wp2_with fail
        refine (parameters_any _ f.params A w2 (hp.stays (Stays.of_below hB2))).mono ?_
        rintro e w3 ⟨rfl, hb3⟩
        have hz2w := hB2.size
        have hB3 : Below w.heap.size w w3 := hB2.trans (hb3.mono hz2w)
        have hz3 := hb3.size
        have z1 := (hb3.cell (p := ⟨w.heap.size, 1, none⟩) (by simp; omega)).trans y1
        have z2 := (hb3.cell (p := ⟨w.heap.size, 2, none⟩) (by simp; omega)).trans y2
        have z3 := (hb3.cell (p := ⟨w.heap.size, 3, none⟩) (by simp; omega)).trans y3
        have z4 := (hb3.cell (p := ⟨w.heap.size, 4, none⟩) (by simp; omega)).trans y4
        have z5 := (hb3.cell (p := ⟨w.heap.size, 5, none⟩) (by simp; omega)).trans y5
        have z6 := (hb3.cell (p := ⟨w.heap.size, 6, none⟩) (by simp; omega)).trans y6
        clear y1 y2 y3 y4 y5 y6 hb3 hB2
        by_cases hpe : parsE f.params = 0
        · have t0 : (parsE f.params != 0) = false := by simp [hpe]
          have hpl : f.params.length ≤ 8 := by
            apply Classical.byContradiction
            intro h
            rw [parsE, if_pos (by omega)] at hpe
            exact absurd hpe (by decide)
          have HPE := Lib.hid hpe
          clear hpe
          go_wp2_with fail
          refine (formed_any f.body _ A w3 (hn.stays (Stays.of_below hB3))).mono ?_
          rintro e w4 ⟨rfl, hb4⟩
          have hz3w := hB3.size
          have hB4 : Below w.heap.size w w4 := hB3.trans (hb4.mono hz3w)
          have hz4 := hb4.size
          have y1 := (hb4.cell (p := ⟨w.heap.size, 1, none⟩) (by simp; omega)).trans z1
          have y2 := (hb4.cell (p := ⟨w.heap.size, 2, none⟩) (by simp; omega)).trans z2
          have y3 := (hb4.cell (p := ⟨w.heap.size, 3, none⟩) (by simp; omega)).trans z3
          have y4 := (hb4.cell (p := ⟨w.heap.size, 4, none⟩) (by simp; omega)).trans z4
          have y5 := (hb4.cell (p := ⟨w.heap.size, 5, none⟩) (by simp; omega)).trans z5
          have y6 := (hb4.cell (p := ⟨w.heap.size, 6, none⟩) (by simp; omega)).trans z6
          clear z1 z2 z3 z4 z5 z6 hb4 hB3
          cases hfo : formedN f.body with
          | false =>
            have HFO := Lib.hid hfo
            clear hfo
            go_wp2
            go_ret
            rw [HE.out, if_neg h30, HN.out, if_neg (by simp), if_neg (by have := HFI.out; omega), if_neg (by simpa using HPE.out), HFO.out]
            exact ⟨rfl, hB4⟩
          | true =>
            have HFO := Lib.hid hfo
            clear hfo
            go_wp2_with fail
            refine (measure_upto (sizeN f.body) f.body _ A w4 (Nat.le_refl _) (by omega) (hn.stays (Stays.of_below hB4))).mono ?_
            rintro e w5 ⟨rfl, hb5⟩
            have hz4w := hB4.size
            have hB5 : Below w.heap.size w w5 := hB4.trans (hb5.mono hz4w)
            have hz5 := hb5.size
            have z1 := (hb5.cell (p := ⟨w.heap.size, 1, none⟩) (by simp; omega)).trans y1
            have z2 := (hb5.cell (p := ⟨w.heap.size, 2, none⟩) (by simp; omega)).trans y2
            have z3 := (hb5.cell (p := ⟨w.heap.size, 3, none⟩) (by simp; omega)).trans y3
            have z4 := (hb5.cell (p := ⟨w.heap.size, 4, none⟩) (by simp; omega)).trans y4
            have z5 := (hb5.cell (p := ⟨w.heap.size, 5, none⟩) (by simp; omega)).trans y5
            have z6 := (hb5.cell (p := ⟨w.heap.size, 6, none⟩) (by simp; omega)).trans y6
            clear y1 y2 y3 y4 y5 y6 hb5 hB4
            by_cases hd80 : 80 < depthN f.body
            · have t1 : decide (80 < (depthN f.body : Int)) = true := by simp; omega
              go_wp2
              go_ret
              rw [HE.out, if_neg h30, HN.out, if_neg (by simp), if_neg (by have := HFI.out; omega), if_neg (by simpa using HPE.out), HFO.out, if_neg (by simp), if_pos hd80]
              exact ⟨rfl, hB5⟩
            · have t1 : decide (80 < (depthN f.body : Int)) = false := by simp; omega
              by_cases hs2 : 2000 < sizeN f.body
              · have t2 : decide (2000 < (sizeN f.body : Int)) = true := by simp; omega
                go_wp2
                go_ret
                rw [HE.out, if_neg h30, HN.out, if_neg (by simp), if_neg (by have := HFI.out; omega), if_neg (by simpa using HPE.out), HFO.out, if_neg (by simp), if_neg hd80, if_pos hs2]
                exact ⟨rfl, hB5⟩
              · have t2 : decide (2000 < (sizeN f.body : Int)) = false := by simp; omega
                go_wp2_with fail
                refine (check_any _ _ _ lib f.params f.body A w5 (hl.stays (Stays.of_below hB5)) (hp.stays (Stays.of_below hB5)) (hn.stays (Stays.of_below hB5)) HFO.out (by omega) (by omega)).mono ?_
                rintro e w6 ⟨rfl, hb6⟩
                have hz5w := hB5.size
                have hB6 : Below w.heap.size w w6 := hB5.trans (hb6.mono hz5w)
                have y2 := (hb6.cell (p := ⟨w.heap.size, 2, none⟩) (by simp; omega)).trans z2
                clear z1 z2 z3 z4 z5 z6 hb6 hB5
                by_cases hce : (checkN lib f.body (parsV f.params)).2 = 0
                · have t3 : ((checkN lib f.body (parsV f.params)).2 != 0) = false := by simp [hce]
                  have HCE := Lib.hid hce
                  clear hce
                  by_cases hli : (checkN lib f.body (parsV f.params)).1 = f.list
                  · have t4 : (!((checkN lib f.body (parsV f.params)).1 == f.list)) = false := by simp [hli]
                    have HLI := Lib.hid hli
                    clear hli
                    go_wp2
                    go_ret
                    rw [HE.out, if_neg h30, HN.out, if_neg (by simp), if_neg (by have := HFI.out; omega), if_neg (by simpa using HPE.out), HFO.out, if_neg (by simp), if_neg hd80, if_neg hs2, if_neg (by simpa using HCE.out), if_neg (by simpa using HLI.out)]
                    exact ⟨rfl, hB6⟩
                  · have t4 : (!((checkN lib f.body (parsV f.params)).1 == f.list)) = true := by simp [hli]
                    have HLI := Lib.hid hli
                    clear hli
                    go_wp2
                    go_ret
                    rw [HE.out, if_neg h30, HN.out, if_neg (by simp), if_neg (by have := HFI.out; omega), if_neg (by simpa using HPE.out), HFO.out, if_neg (by simp), if_neg hd80, if_neg hs2, if_neg (by simpa using HCE.out), if_pos HLI.out]
                    exact ⟨rfl, hB6⟩
                · have t3 : ((checkN lib f.body (parsV f.params)).2 != 0) = true := by simpa using hce
                  have HCE := Lib.hid hce
                  clear hce
                  go_wp2
                  go_ret
                  rw [HE.out, if_neg h30, HN.out, if_neg (by simp), if_neg (by have := HFI.out; omega), if_neg (by simpa using HPE.out), HFO.out, if_neg (by simp), if_neg hd80, if_neg hs2, if_pos HCE.out]
                  exact ⟨rfl, hB6⟩
        · have t0 : (parsE f.params != 0) = true := by simpa using hpe
          have HPE := Lib.hid hpe
          clear hpe
          go_wp2
          go_ret
          rw [HE.out, if_neg h30, HN.out, if_neg (by simp), if_neg (by have := HFI.out; omega), if_pos HPE.out]
          exact ⟨rfl, hB3⟩

theorem validFrom_step (lib : List Fn) : ∀ (m i k : Nat), (∀ j, i ≤ j → j < k → fnE lib j = 0) → i ≤ k → k ≤ i + m → validFrom lib m i = validFrom lib (m - (k - i)) k
  | m, i, k, h, h1, h2 => by
    induction m generalizing i with
    | zero =>
      obtain rfl : k = i := by omega
      simp
    | succ m ih =>
      by_cases e : i = k
      · subst e; simp
      · rw [validFrom, if_neg (by simpa using h i (Nat.le_refl _) (by omega)), ih (i + 1) (fun j hj hk => h j (by omega) hk) (by omega) (by omega)]
        congr 1; omega

set_option maxHeartbeats 1600000 in
theorem valid_any (lv : Value) (lib : List Fn) (A : Nat → Prop) (w : World) (hl : FnsAt A w lv lib) (hmod : Modest lib) :
    Calls Tryz.prog 22 #[lv] w fun e w' => e = .returned (.tuple #[.int .i64 (validE lib).1, .int .i64 (validE lib).2]) ∧ Below w.heap.size w w' := by
  obtain ⟨hll, la, lc, rfl⟩ := hl.form
  unfold maxLen at hll
  have HM := Lib.hid hmod
  clear hmod
  go_enter Tryz.func22, Tryz.ntmps22
  go_wp2
  go_loopw [8, 4] (fun i _ wr => ∃ k : Nat, k ≤ lib.length ∧ i = .int .i64 k ∧ (∀ j, j < k → fnE lib j = 0) ∧ Below w.heap.size w wr) (fun i _ _ => lib.length - (intOf i).toNat)
  case atStart => exact ⟨0, Nat.zero_le _, rfl, fun j hj => absurd hj (by omega), Below.refl _ _⟩
  case round =>
    obtain ⟨k, hk, rfl, hno, hbl⟩ := hrel
    have HN := Lib.hid hno
    clear hno
    have hz := hbl.size
    have hV := Lib.hid (validFrom_step lib lib.length 0 k (fun j _ hj => HN.out j hj) (by omega) (by omega))
    by_cases hlt : k < lib.length
    · go_wp2_with fail
      refine (function_any _ lib k A wr (hl.stays (Stays.of_below hbl)) hlt HM.out).mono ?_
      rintro e w1 ⟨rfl, hb1⟩
      have hB1 : Below w.heap.size w w1 := hbl.trans (hb1.mono hz)
      by_cases he : fnE lib k = 0
      · have t0 : (fnE lib k != 0) = false := by simp [he]
        have HE := Lib.hid he
        clear he
        go_wp2
        go_roundw
        case rel => exact ⟨k + 1, by omega, by go_num, fun j hj => (by
          by_cases e : j = k
          · rw [e]; exact HE.out
          · exact HN.out j (by omega)), hB1⟩
        case measure => simp [intOf]; omega
      · have t0 : (fnE lib k != 0) = true := by simpa using he
        have HE := Lib.hid he
        clear he
        go_wp2
        go_ret2
        have hr : validE lib = ((k : Int), fnE lib k) := by
          rw [validE, hV.out, show lib.length - (k - 0) = (lib.length - k - 1) + 1 by omega, validFrom, if_pos HE.out]
        rw [hr]
        exact ⟨rfl, hB1⟩
    · go_wp2
      go_ret2
      have hr : validE lib = (-1, 0) := by
        rw [validE, hV.out, show lib.length - (k - 0) = 0 by omega]; rfl
      rw [hr]
      exact ⟨rfl, hbl⟩
end Go.Proofs.YtehmmokkjojggabGreatDoor
