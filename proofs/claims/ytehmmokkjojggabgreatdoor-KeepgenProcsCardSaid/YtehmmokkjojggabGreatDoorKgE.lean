/- Walks of package cleangen: Params, with a row of the call's own. -/
import Derived.Test.YtehmmokkjojggabGreatDoorZq27
namespace Go.Proofs.YtehmmokkjojggabGreatDoor
set_option linter.unusedVariables false
set_option linter.unusedSimpArgs false
open Go.RowKit
theorem RowsOwn.base_le {α : Type} [Inhabited α] {E : Elem α} {e : Nat} {D : Nat → Prop} {b b' : Nat} {w : World} {v : Value} {l : List α} (h : RowsOwn E e D b w v l) (hb : b' ≤ b) : RowsOwn E e D b' w v l := by
  obtain ⟨xs, ⟨h0, h1⟩, hf⟩ := h
  refine ⟨xs, ⟨h0, ?_⟩, hf⟩
  rcases h1 with h1 | ⟨g, cap, cur, e1, e2, e3⟩
  · exact .inl h1
  · exact .inr ⟨g, cap, cur, e1, Nat.le_trans hb e2, e3⟩
set_option maxRecDepth 100000 in
set_option maxHeartbeats 3200000 in
theorem params_O (g : AFn) (pa ta ba : Option Addr) (pc tc bc : Nat) (w : World) (hp : ParsAt Any w (.slice pa g.params.length pc) g.params) (hl : g.params.length ≤ 1000) :
    Calls Tryz.prog 18 #[.agg #[.string g.name, .slice pa g.params.length pc, .bool g.list, .slice ta g.temps.length tc, .slice ba g.body.length bc, .string g.result]] w fun e w' => ∃ a c, e = .returned (.slice a (paramsN g).length c) ∧ RowsOwn DclE 59 Any w.heap.size w' (.slice a (paramsN g).length c) (paramsN g) ∧ Below w.heap.size w w' := by
  have hA : Below w.heap.size w (w.alloc (.cells #[.string g.name, .slice pa g.params.length pc, .bool g.list, .slice ta g.temps.length tc, .slice ba g.body.length bc, .string g.result] 31)) := (Below.refl _ _).alloc (Nat.le_refl _) _
  have hws : w.heap.size < (w.alloc (.cells #[.string g.name, .slice pa g.params.length pc, .bool g.list, .slice ta g.temps.length tc, .slice ba g.body.length bc, .string g.result] 31)).heap.size := by simp
  have HN := Lib.hid (at_new0 w (.cells #[.string g.name, .slice pa g.params.length pc, .bool g.list, .slice ta g.temps.length tc, .slice ba g.body.length bc, .string g.result] 31))
  have HP := Lib.hid (hp.stays (Stays.of_below hA))
  clear hp
  go_enter Tryz.func18, Tryz.ntmps18
  go_wp2
  generalize (w.alloc (.cells #[.string g.name, .slice pa g.params.length pc, .bool g.list, .slice ta g.temps.length tc, .slice ba g.body.length bc, .string g.result] 31)) = W at *
  go_loopw [9, 3] (fun i v wr => ∃ k : Nat, i = .int .i64 k ∧ k ≤ g.params.length ∧ Below W.heap.size W wr ∧ RowsOwn DclE 59 (Up W.heap.size) W.heap.size wr v ((g.params.take k).map (fun p => dclN p.name p.list))) (fun i _ _ => g.params.length - (intOf i).toNat)
  case atStart => exact ⟨0, rfl, Nat.zero_le _, Below.refl _ _, by rw [List.take_zero]; exact RowsOwn.nil _ _ _ _ _⟩
  case round =>
    obtain ⟨k, rfl, hk, hbl, hown⟩ := hrel
    have hlk : ((g.params.take k).map (fun p => dclN p.name p.list)).length = k := by simp; omega
    obtain ⟨va, vc, hv⟩ := hown.form
    rw [hlk] at hv
    subst hv
    have HOWN := Lib.hid hown
    have HLK := Lib.hid hlk
    clear hown hlk
    have hbw : Below w.heap.size w wr := hA.trans (hbl.mono hA.size)
    by_cases hlt : k < g.params.length
    · obtain ⟨b, off, cap, he, hb, _, _, c0, c1, hsz⟩ := (HP.out.stays (Stays.of_below hbl)).at hlt
      simp only [Value.slice.injEq] at he
      obtain ⟨rfl, -, rfl⟩ := he
      have HTK : Hid ((g.params.take (k + 1)).map (fun p => dclN p.name p.list) = (g.params.take k).map (fun p => dclN p.name p.list) ++ [dclN (at' g.params k).name (at' g.params k).list]) := Lib.hid (by rw [List.take_add_one, List.getElem?_eq_getElem hlt, at_eq hlt, List.map_append]; rfl)
      have hA2 : Below wr.heap.size wr (wr.alloc (.cells #[.string (at' g.params k).name, .bool (at' g.params k).list] 57)) := (Below.refl _ _).alloc (Nat.le_refl _) _
      go_wp2_with fail
      refine (decl_C _ _ _).mono ?_
      rintro e w1 ⟨rfl, hb1⟩
      have hB1 : Below wr.heap.size wr w1 := hA2.trans (hb1.mono hA2.size)
      have hBa : Below w1.heap.size w1 (w1.alloc (.cells #[.string (at' g.params k).name, .int .u8 (dclN (at' g.params k).name (at' g.params k).list).kind, .int .i64 0] 59)) := (Below.refl _ _).alloc (Nat.le_refl _) _
      have HK1 := Lib.hid (dcl_1 (A := fun j => j = w1.heap.size) (heap_alloc_new w1 (.cells #[.string (at' g.params k).name, .int .u8 (dclN (at' g.params k).name (at' g.params k).list).kind, .int .i64 0] 59)) rfl hsz)
      have HO1 := Lib.hid ((HOWN.out.below hB1).below hBa)
      have HD : Hid (∀ b, b < (w1.alloc (.cells #[.string (at' g.params k).name, .int .u8 (dclN (at' g.params k).name (at' g.params k).list).kind, .int .i64 0] 59)).heap.size → b = w1.heap.size → Up W.heap.size b ∧ (Value.slice va k vc).ownBlock ≠ some b) := Lib.hid (fun b _ e => ⟨by have := hbl.size; have := hB1.size; unfold Up; omega, fun e2 => by have := (HOWN.out.lt e2).2; have := hB1.size; omega⟩)
      have hbase : W.heap.size ≤ (w1.alloc (.cells #[.string (at' g.params k).name, .int .u8 (dclN (at' g.params k).name (at' g.params k).list).kind, .int .i64 0] 59)).heap.size := Nat.le_trans hbl.size (Nat.le_trans hB1.size hBa.size)
      go_wp2_with (at_builtin; refine wpl_rows TDcl rfl (by decide) rfl (.tmp 13) (.tmp 19) rfl rfl rfl HO1.out HK1.out HD.out (by rw [HLK.out]; unfold maxLen; simp; omega) (by rw [HLK.out]; simp; omega) hbase ?_; intro a' c' w3 h3 hg3 hn3; have H3 := Lib.hid h3; have HG3 : Hid (World.grownBy _ w3 (Value.slice va k vc).ownBlock) := Lib.hid hg3; clear h3 hg3 hn3)
      refine ⟨⟨k + 1, by go_num, by omega, ?_, by rw [HTK.out]; have h3 := H3.out; rw [HLK.out] at h3; exact h3⟩, by simp [intOf]; omega⟩
      exact ((hbl.trans ((hB1.trans (hBa.mono hB1.size)).mono hbl.size))).grown HG3.out hbase (fun j e => (HOWN.out.lt e).1)
    · obtain rfl : k = g.params.length := by omega
      have hlt' : ¬ (g.params.length : Int) < (g.params.length : Int) := by omega
      rw [List.take_length] at HOWN HLK
      have hr := blk_below hbl HN.out
      have b2 := cell_blk hr 2 rfl
      have HPL : Hid ((paramsN g).length = g.params.length + 1) := Lib.hid (by simp [paramsN])
      have HPN : Hid (paramsN g = g.params.map (fun p => dclN p.name p.list) ++ [dclN outS g.list]) := Lib.hid rfl
      clear hr
      go_wp2_with fail
      refine (decl_C _ _ _).mono ?_
      rintro e w1 ⟨rfl, hb1⟩
      have hBa : Below w1.heap.size w1 (w1.alloc (.cells #[.string ⟨#[111, 117, 116]⟩, .int .u8 (dclN ⟨#[111, 117, 116]⟩ g.list).kind, .int .i64 0] 59)) := (Below.refl _ _).alloc (Nat.le_refl _) _
      have HK1 := Lib.hid (dcl_1 (A := fun j => j = w1.heap.size) (heap_alloc_new w1 (.cells #[.string ⟨#[111, 117, 116]⟩, .int .u8 (dclN ⟨#[111, 117, 116]⟩ g.list).kind, .int .i64 0] 59)) rfl (by unfold maxLen; decide))
      have HO1 := Lib.hid ((HOWN.out.below hb1).below hBa)
      have HD : Hid (∀ b, b < (w1.alloc (.cells #[.string ⟨#[111, 117, 116]⟩, .int .u8 (dclN ⟨#[111, 117, 116]⟩ g.list).kind, .int .i64 0] 59)).heap.size → b = w1.heap.size → Up W.heap.size b ∧ (Value.slice va g.params.length vc).ownBlock ≠ some b) := Lib.hid (fun b _ e => ⟨by have := hbl.size; have := hb1.size; unfold Up; omega, fun e2 => by have := (HOWN.out.lt e2).2; have := hb1.size; omega⟩)
      have hbase : W.heap.size ≤ (w1.alloc (.cells #[.string ⟨#[111, 117, 116]⟩, .int .u8 (dclN ⟨#[111, 117, 116]⟩ g.list).kind, .int .i64 0] 59)).heap.size := Nat.le_trans hbl.size (Nat.le_trans hb1.size hBa.size)
      go_wp2_with (at_builtin; refine wpl_rows TDcl rfl (by decide) rfl (.tmp 22) (.tmp 26) rfl rfl rfl HO1.out HK1.out HD.out (by rw [HLK.out]; unfold maxLen; simp; omega) (by rw [HLK.out]; simp; omega) hbase ?_; intro a' c' w3 h3 hg3 hn3; have H3 := Lib.hid h3; have HG3 : Hid (World.grownBy _ w3 (Value.slice va g.params.length vc).ownBlock) := Lib.hid hg3; clear h3 hg3 hn3)
      go_ret
      have h3 := H3.out
      have hB3 : Below W.heap.size W w3 := (hbl.trans ((hb1.trans (hBa.mono hb1.size)).mono hbl.size)).grown HG3.out hbase (fun j e => (HOWN.out.lt e).1)
      rw [HPL.out, HPN.out]
      have hW : w.heap.size ≤ W.heap.size := hA.size
      rw [HLK.out] at h3
      exact ⟨_, _, rfl, (h3.mono (fun _ _ => trivial)).base_le hW, hA.trans (hB3.mono hA.size)⟩
end Go.Proofs.YtehmmokkjojggabGreatDoor
