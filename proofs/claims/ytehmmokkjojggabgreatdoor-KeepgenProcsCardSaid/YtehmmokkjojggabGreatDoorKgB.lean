/- Walks of package keepgen: Name, caller; of backsteplaw41: in, computed's function value. -/
import Derived.Test.YtehmmokkjojggabGreatDoorZq27
namespace Go.Proofs.YtehmmokkjojggabGreatDoor
set_option linter.unusedVariables false
set_option linter.unusedSimpArgs false
open Go.RowKit

/-- the procedure of a name, and its extra arguments -/
def keptF (kept : List ByteArray) : CallF := fun nm => if inB kept nm then (nm ++ ⟨#[49]⟩, [⟨#[103]⟩]) else (nm, [])
theorem kept_yes {kept : List ByteArray} {nm : ByteArray} (h : inB kept nm = true) : keptF kept nm = (nm ++ ⟨#[49]⟩, [⟨#[103]⟩]) := by unfold keptF; rw [if_pos h]
theorem kept_no {kept : List ByteArray} {nm : ByteArray} (h : inB kept nm = false) : keptF kept nm = (nm, []) := by unfold keptF; rw [h]; rfl
theorem name_K (s : ByteArray) (w : World) (hs : s.size ≤ 140737488355328) : Calls Tryz.prog 64 #[.string s] w fun e w' => e = .returned (.string (s ++ ⟨#[49]⟩)) ∧ w = w' := by
  have h1 : ¬ 9223372036854775807 < s.size + 1 := by omega
  have h2 : s.size + 1 ≤ 9223372036854775807 := by omega
  go_enter Tryz.func64, Tryz.ntmps64
  go_wp2
  go_ret
  exact ⟨rfl, rfl⟩
theorem strs_1k {w : World} {g : Nat} {s : ByteArray} (h : w.heap[g]? = some (.cells #[.string s] 9 (0, 0))) (hs : s.size ≤ maxLen) : StrsAt Any w (.slice (some ⟨g, 0, none⟩) 1 1) [s] := by
  have hl : g < w.heap.size := by rw [Array.getElem?_eq_some_iff] at h; exact h.1
  refine ⟨fun j _ => .string s, ⟨by unfold maxLen; simp, _, _, rfl, Nat.le_refl _, nofun, fun _ => ⟨g, 0, rfl, hl, trivial, fun j hj i hi => ?_⟩⟩, fun j hj => ?_⟩
  · obtain rfl : i = 0 := by omega
    obtain rfl : j = 0 := by simpa using hj
    exact cell_blk h 0 rfl
  · obtain rfl : j = 0 := by simpa using hj
    exact ⟨rfl, hs⟩
theorem g_size : (⟨#[103]⟩ : ByteArray).size ≤ maxLen := by unfold maxLen; decide
theorem inB_mem' {l : List ByteArray} {s : ByteArray} (h : inB l s = true) : s ∈ l := by
  unfold inB at h
  rw [List.any_eq_true] at h
  obtain ⟨x, hx, e⟩ := h
  simp only [decide_eq_true_eq] at e
  rw [← e]; exact hx
def KeptPost (kept : List ByteArray) (nm : ByteArray) (w : World) (e : Ending) (w' : World) : Prop := ∃ xa xn xc, e = .returned (.tuple #[.string (keptF kept nm).1, .slice xa xn xc]) ∧ StrsAt Any w' (.slice xa xn xc) (keptF kept nm).2 ∧ Below w.heap.size w w'
theorem inB_no {l : List ByteArray} {s : ByteArray} (h : ∀ j, j < l.length → at' l j ≠ s) : inB l s = false := by
  rw [inB, List.any_eq_false]
  intro x hx
  obtain ⟨j, hj, rfl⟩ := List.getElem_of_mem hx
  have := h j hj
  rw [at_eq hj] at this
  simpa using this
theorem inB_yes {l : List ByteArray} {s : ByteArray} {j : Nat} (hj : j < l.length) (h : at' l j = s) : inB l s = true := by
  rw [inB, List.any_eq_true]
  exact ⟨_, at_mem hj, by simpa using h⟩
set_option maxRecDepth 100000 in set_option maxHeartbeats 3200000 in theorem caller1_K (kept : List ByteArray) (ka : Option Addr) (kc : Nat) (nm : ByteArray) (g : Nat) (w : World) (hg : w.heap[g]? = some (.cells #[.slice ka kept.length kc] 23 (0, 0))) (hk : StrsAt Any w (.slice ka kept.length kc) kept) (hs : ∀ s ∈ kept, s.size ≤ 140737488355328) :
    Calls Tryz.prog 106 #[.string nm, .pointer (some ⟨g, 0, none⟩)] w (KeptPost kept nm w) := by
  have c0 : w.cell? ⟨g, 0, none⟩ = some (.slice ka kept.length kc) := cell_blk hg 0 rfl
  have HC := Lib.hid (containsS_any (.slice ka kept.length kc) kept nm Any w hk)
  clear hk hg
  go_enter Tryz.func106, Tryz.ntmps106
  go_wp2_with fail
  refine HC.out.mono ?_
  rintro e w1 ⟨rfl, rfl⟩
  cases hb : inB kept nm with
  | true =>
    have HF := Lib.hid (kept_yes hb)
    have HN := Lib.hid (name_K nm w (hs nm (inB_mem' hb)))
    clear hb
    go_wp2_with fail
    refine HN.out.mono ?_
    rintro e w2 ⟨rfl, rfl⟩
    go_wp2
    go_ret2
    unfold KeptPost
    rw [HF.out]
    exact ⟨_, _, _, rfl, strs_1k (at_new0 _ _) g_size, bel_alloc (Below.refl _ _)⟩
  | false =>
    have HF := Lib.hid (kept_no hb)
    clear hb
    go_wp2
    go_ret2
    unfold KeptPost
    rw [HF.out]
    exact ⟨_, _, _, rfl, ⟨fun _ _ => undef, RowAt.empty _ _ _, fun j hj => by simp at hj⟩, Below.refl _ _⟩
set_option maxRecDepth 100000 in set_option maxHeartbeats 3200000 in theorem in41_any (v : Value) (l : List ByteArray) (s : ByteArray) (A : Nat → Prop) (w : World) (hv : StrsAt A w v l) :
    Calls Tryz.prog 67 #[v, .string s] w fun e w' => e = .returned (.bool (inB l s)) ∧ w = w' := by
  obtain ⟨hlen, a, cap, rfl⟩ := hv.form
  unfold maxLen at hlen
  go_enter Tryz.func67, Tryz.ntmps67
  go_wp2
  go_loop [9] (fun i => ∃ k : Nat, k ≤ l.length ∧ i = .int .i64 k ∧ ∀ j, j < k → at' l j ≠ s) (fun i => l.length - (intOf i).toNat)
  case atStart => exact ⟨0, Nat.zero_le _, rfl, fun j hj => absurd hj (by omega)⟩
  case round =>
    obtain ⟨k, hk, rfl, hno⟩ := hrel
    have HN := Lib.hid hno
    clear hno
    by_cases hlt : k < l.length
    · obtain ⟨b, off, cap', he, hb, _, _, c0, hs⟩ := hv.at hlt
      simp only [Value.slice.injEq] at he
      obtain ⟨rfl, -, rfl⟩ := he
      by_cases heq : at' l k = s
      · have HF := Lib.hid (inB_yes hlt heq)
        have he : ((at' l k).toList == s.toList) = true := by rw [heq]; simp
        clear heq
        go_wp2
        go_ret
        rw [HF.out]
        exact ⟨rfl, rfl⟩
      · have he : ((at' l k).toList == s.toList) = false := beq_eq_false_iff_ne.2 (fun h => heq (toList_inj h))
        have HQ := Lib.hid heq
        clear heq
        go_wp2
        go_round
        case rel => exact ⟨k + 1, by omega, by go_num, fun j hj => (by
          by_cases e : j = k
          · rw [e]; exact HQ.out
          · exact HN.out j (by omega))⟩
        case measure => simp [intOf]; omega
    · go_wp2
      go_ret
      rw [inB_no (fun j hj => HN.out j (by omega))]
      exact ⟨rfl, rfl⟩
set_option maxRecDepth 100000 in set_option maxHeartbeats 3200000 in theorem computed1_L (kept : List ByteArray) (ka : Option Addr) (kc : Nat) (nm : ByteArray) (g : Nat) (w : World) (hg : w.heap[g]? = some (.cells #[.slice ka kept.length kc] 23 (0, 0))) (hk : StrsAt Any w (.slice ka kept.length kc) kept) (hs : ∀ s ∈ kept, s.size ≤ 140737488355328) :
    Calls Tryz.prog 66 #[.string nm, .pointer (some ⟨g, 0, none⟩)] w (KeptPost kept nm w) := by
  have c0 : w.cell? ⟨g, 0, none⟩ = some (.slice ka kept.length kc) := cell_blk hg 0 rfl
  have HC := Lib.hid (in41_any (.slice ka kept.length kc) kept nm Any w hk)
  clear hk hg
  go_enter Tryz.func66, Tryz.ntmps66
  go_wp2_with fail
  refine HC.out.mono ?_
  rintro e w1 ⟨rfl, rfl⟩
  cases hb : inB kept nm with
  | true =>
    have HF := Lib.hid (kept_yes hb)
    have HN := Lib.hid (name_K nm w (hs nm (inB_mem' hb)))
    clear hb
    go_wp2_with fail
    refine HN.out.mono ?_
    rintro e w2 ⟨rfl, rfl⟩
    go_wp2
    go_ret2
    unfold KeptPost
    rw [HF.out]
    exact ⟨_, _, _, rfl, strs_1k (at_new0 _ _) g_size, bel_alloc (Below.refl _ _)⟩
  | false =>
    have HF := Lib.hid (kept_no hb)
    clear hb
    go_wp2
    go_ret2
    unfold KeptPost
    rw [HF.out]
    exact ⟨_, _, _, rfl, ⟨fun _ _ => undef, RowAt.empty _ _ _, fun j hj => by simp at hj⟩, Below.refl _ _⟩
theorem caller_K (ka : Option Addr) (kn kc : Nat) (w : World) : Calls Tryz.prog 68 #[.slice ka kn kc] w fun e w' => ∃ g, e = .returned (.func (.func 106) #[] #[.pointer (some ⟨g, 0, none⟩)]) ∧ w'.heap[g]? = some (.cells #[.slice ka kn kc] 23 (0, 0)) ∧ Below w.heap.size w w' := by
  go_enter Tryz.func68, Tryz.ntmps68
  go_wp2
  go_ret
  exact ⟨_, rfl, at_new0 _ _, bel_alloc (Below.refl _ _)⟩
theorem kept_small {kept : List ByteArray} (hs : ∀ s ∈ kept, s.size ≤ 140737488355328) {nm : ByteArray} (hn : nm.size ≤ maxLen) : (keptF kept nm).1.size ≤ maxLen ∧ (keptF kept nm).2.length ≤ 1000 := by
  cases hb : inB kept nm with
  | true =>
    rw [kept_yes hb]
    have hm : nm ∈ kept := by
      unfold inB at hb
      rw [List.any_eq_true] at hb
      obtain ⟨x, hx, e⟩ := hb
      simp only [decide_eq_true_eq] at e
      rw [← e]; exact hx
    have := hs nm hm
    refine ⟨?_, by simp⟩
    show (nm ++ (⟨#[49]⟩ : ByteArray)).size ≤ maxLen
    rw [ByteArray.size_append]
    unfold maxLen
    show nm.size + 1 ≤ _
    omega
  | false => rw [kept_no hb]; exact ⟨hn, by simp⟩
theorem caller_clos {kept : List ByteArray} (hs : ∀ s ∈ kept, s.size ≤ 140737488355328) {ka : Option Addr} {kc g : Nat} {w : World} (hg : w.heap[g]? = some (.cells #[.slice ka kept.length kc] 23 (0, 0))) (hk : StrsAt Any w (.slice ka kept.length kc) kept) : ClosOk (.func (.func 106) #[] #[.pointer (some ⟨g, 0, none⟩)]) (keptF kept) w :=
  ⟨_, _, rfl, fun args w0 => by kernel_rfl, fun nm w1 hn hb => ⟨caller1_K kept ka kc nm g w1 (blk_below hb hg) (hk.stays (Stays.of_below hb)) hs, kept_small hs hn⟩⟩
theorem computed_clos {kept : List ByteArray} (hs : ∀ s ∈ kept, s.size ≤ 140737488355328) {ka : Option Addr} {kc g : Nat} {w : World} (hg : w.heap[g]? = some (.cells #[.slice ka kept.length kc] 23 (0, 0))) (hk : StrsAt Any w (.slice ka kept.length kc) kept) : ClosOk (.func (.func 66) #[] #[.pointer (some ⟨g, 0, none⟩)]) (keptF kept) w :=
  ⟨_, _, rfl, fun args w0 => by kernel_rfl, fun nm w1 hn hb => ⟨computed1_L kept ka kc nm g w1 (blk_below hb hg) (hk.stays (Stays.of_below hb)) hs, kept_small hs hn⟩⟩
end Go.Proofs.YtehmmokkjojggabGreatDoor
