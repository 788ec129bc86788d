/- Contracts and plain lemmas (Zq19, Zq20, Zq21, Zq22, Zq23, Zq24, Zq25, Zq28): no statement of the seat is proved here. -/
import Derived.Test.YtkemieppamdniaaGreatDoorYq13
import Derived.Test.YtkemieppamdniaaGreatDoorYq07
import Derived.Test.YtkemieppamdniaaGreatDoorYq18
import Derived.Test.YtkemieppamdniaaGreatDoorYq27
import Derived.Test.YtkemieppamdniaaGreatDoorYq14
set_option linter.unusedSimpArgs false
set_option linter.unusedVariables false
set_option linter.unusedSectionVars false
/- Walks of package backstepref40: node, v, num, plus. -/
namespace Go.Proofs.YtkemieppamdniaaGreatDoor
set_option linter.unusedVariables false
open Go.RowKit

end Go.Proofs.YtkemieppamdniaaGreatDoor
/- Walks of package backstepref40: call; v, plus and node with data from a block on. -/
namespace Go.Proofs.YtkemieppamdniaaGreatDoor
set_option linter.unusedVariables false
open Go.RowKit

end Go.Proofs.YtkemieppamdniaaGreatDoor
/- Words for the walks of backstepref40.one. -/
namespace Go.Proofs.YtkemieppamdniaaGreatDoor
set_option linter.unusedVariables false
open Go.RowKit

end Go.Proofs.YtkemieppamdniaaGreatDoor
set_option linter.unusedSimpArgs false
set_option linter.unusedVariables false
set_option linter.unusedSectionVars false
/- Walks of backstepref40.one. -/
namespace Go.Proofs.YtkemieppamdniaaGreatDoor
set_option linter.unusedVariables false
open Go.RowKit
end Go.Proofs.YtkemieppamdniaaGreatDoor
set_option linter.unusedSimpArgs false
set_option linter.unusedVariables false
set_option linter.unusedSectionVars false
/- Walks of backstepref40.one. -/
namespace Go.Proofs.YtkemieppamdniaaGreatDoor
set_option linter.unusedVariables false
open Go.RowKit
end Go.Proofs.YtkemieppamdniaaGreatDoor
/- backstepref40.one at a call. -/
namespace Go.Proofs.YtkemieppamdniaaGreatDoor
set_option linter.unusedVariables false
open Go.RowKit

/-- a target -/
structure Tg where
  name : ByteArray
  proc : ByteArray
  extra : List ByteArray
instance : Inhabited Tg := ⟨⟨ByteArray.empty, ByteArray.empty, []⟩⟩
end Go.Proofs.YtkemieppamdniaaGreatDoor
/- backstepref40.one at a call. -/
namespace Go.Proofs.YtkemieppamdniaaGreatDoor
set_option linter.unusedVariables false
open Go.RowKit

end Go.Proofs.YtkemieppamdniaaGreatDoor
set_option linter.unusedSimpArgs false
set_option linter.unusedVariables false
set_option linter.unusedSectionVars false
/- Walks of backstepref40.one. -/
namespace Go.Proofs.YtkemieppamdniaaGreatDoor
set_option linter.unusedVariables false
open Go.RowKit
end Go.Proofs.YtkemieppamdniaaGreatDoor
set_option linter.unusedSimpArgs false
set_option linter.unusedVariables false
set_option linter.unusedSectionVars false
/- Walks of backstepref40.one. -/
namespace Go.Proofs.YtkemieppamdniaaGreatDoor
set_option linter.unusedVariables false
open Go.RowKit
end Go.Proofs.YtkemieppamdniaaGreatDoor
set_option linter.unusedSimpArgs false
set_option linter.unusedVariables false
set_option linter.unusedSectionVars false
/- Walks of package backstepref40: Block. -/
namespace Go.Proofs.YtkemieppamdniaaGreatDoor
set_option linter.unusedVariables false
open Go.RowKit

end Go.Proofs.YtkemieppamdniaaGreatDoor
/- backstepref40.one and Block as a whole. -/
namespace Go.Proofs.YtkemieppamdniaaGreatDoor
set_option linter.unusedVariables false
open Go.RowKit

end Go.Proofs.YtkemieppamdniaaGreatDoor
set_option linter.unusedSimpArgs false
set_option linter.unusedVariables false
set_option linter.unusedSectionVars false
/- Walks of package backsteplaw40: binds. -/
namespace Go.Proofs.YtkemieppamdniaaGreatDoor
set_option linter.unusedVariables false
open Go.RowKit

end Go.Proofs.YtkemieppamdniaaGreatDoor
set_option linter.unusedSimpArgs false
set_option linter.unusedVariables false
set_option linter.unusedSectionVars false
/- Walks of package backsteplaw40: normal. -/
namespace Go.Proofs.YtkemieppamdniaaGreatDoor
set_option linter.unusedVariables false
open Go.RowKit

/-- a small valid library -/
def SmallOk (lib : List Fn) : Prop := lib.length ≤ 8 ∧ (∀ i, i < lib.length → sizeN (at' lib i).body ≤ 120) ∧ (validE lib).2 = 0
/-- what normal leaves -/
def NormalPost (lib : List Fn) (w : World) (e : Ending) (w' : World) : Prop := Below w.heap.size w w' ∧ ((∃ a n c, e = .returned (.tuple #[.slice a n c, .bool false])) ∨ ∃ a c, e = .returned (.tuple #[.slice a (normL lib).length c, .bool true]) ∧ SmallOk lib ∧ AFnsAt Any w' (.slice a (normL lib).length c) (normL lib))

set_option maxRecDepth 100000 in
set_option maxHeartbeats 3200000 in
theorem normal_any (lv : Value) (lib : List Fn) (A : Nat → Prop) (w : World) (hl : FnsAt A w lv lib) (ht : Tab w) :
    Calls Tryz.prog 9 #[lv] w (NormalPost lib w) := by
  obtain ⟨hll, la, lc, rfl⟩ := hl.form
  unfold maxLen at hll
  have HL := Lib.hid hl
  have HT := Lib.hid ht
  clear hl ht
  by_cases h8 : 8 < lib.length
  · have d8 : decide ((8 : Int) < (lib.length : Int)) = true := by simp; omega
    go_enter Tryz.func9, Tryz.ntmps9
    go_wp2
    go_ret2
    exact ⟨Below.refl _ _, .inl ⟨_, _, _, rfl⟩⟩
  · have d8 : decide ((8 : Int) < (lib.length : Int)) = false := by simp; omega
    go_enter Tryz.func9, Tryz.ntmps9
    go_wp2
    go_loopw [13] (fun i wr => ∃ k : Nat, i = .int .i64 k ∧ k ≤ lib.length ∧ Below w.heap.size w wr ∧ ∀ j, j < k → sizeN (at' lib j).body ≤ 120) (fun i _ => lib.length - (intOf i).toNat)
    case atStart => exact ⟨0, rfl, Nat.zero_le _, Below.refl _ _, fun j hj => by omega⟩
    case round =>
      obtain ⟨k, rfl, hk, hbl, hsm⟩ := hrel
      have HSM := Lib.hid hsm
      clear hsm
      by_cases hlt : k < lib.length
      · obtain ⟨b, off, cap', pa, pc, ka, kc, he, hb, _, _, c0, c1, c2, c3, c4, c5, c6, hsn, hpar, hnd⟩ := (HL.out.stays (Stays.of_below hbl)).at hlt
        simp only [Value.slice.injEq] at he
        obtain ⟨rfl, -, rfl⟩ := he
        have hA1 : Below wr.heap.size wr (wr.alloc (.cells #[.string (at' lib k).name, .slice pa (at' lib k).params.length pc, .bool (at' lib k).list, .int .u8 (at' lib k).body.kind, .int .i64 (at' lib k).body.num, .string (at' lib k).body.name, .slice ka (at' lib k).body.kids.length kc] 37)) := (Below.refl _ _).alloc (Nat.le_refl _) _
        have HBU := Lib.hid (budget_upto _ (at' lib k).body 120 _ A _ (Nat.le_refl _) (by omega) (by omega) (hnd.stays (Stays.of_below hA1)))
        have hls := leftN_size (at' lib k).body 120 (by omega)
        clear hpar hnd
        by_cases hneg : leftN (at' lib k).body 120 < 0
        · have dn : decide (leftN (at' lib k).body 120 < 0) = true := by simp [hneg]
          have HLS := Lib.hid hls
          clear hls
          go_wp2_with (go_at_call 33; refine HBU.out.mono ?_; rintro e w1 ⟨rfl, hb1⟩)
          go_ret2
          exact ⟨hbl.trans ((hA1.trans (hb1.mono hA1.size)).mono hbl.size), .inl ⟨_, _, _, rfl⟩⟩
        · have dn : decide (leftN (at' lib k).body 120 < 0) = false := by simp [hneg]
          have hsz : sizeN (at' lib k).body ≤ 120 := by have := hls.2.2 (by omega); omega
          have HNX : Hid (∀ j, j < k + 1 → sizeN (at' lib j).body ≤ 120) := Lib.hid (fun j hj => by
            by_cases e : j = k
            · subst e; exact hsz
            · exact HSM.out j (by omega))
          have HLS := Lib.hid hls
          clear hls hsz
          go_wp2_with (go_at_call 33; refine HBU.out.mono ?_; rintro e w1 ⟨rfl, hb1⟩)
          exact ⟨⟨k + 1, by go_num, by omega, hbl.trans ((hA1.trans (hb1.mono hA1.size)).mono hbl.size), HNX.out⟩, by simp [intOf]; omega⟩
      · obtain rfl : k = lib.length := by omega
        have hlt' : ¬ (lib.length : Int) < (lib.length : Int) := by omega
        have hmod : Modest lib := fun j hj => by have := HSM.out j hj; omega
        have HNO := Lib.hid (normalizeL_any _ lib A wr (HL.out.stays (Stays.of_below hbl)) hmod (HT.out.below hbl))
        clear hmod
        by_cases hv : (validE lib).2 = 0
        · have HV := Lib.hid hv
          clear hv
          go_wp2_with (go_at_call 34; refine HNO.out.mono ?_; intro e w1 hp1; obtain ⟨v, rfl, hv1⟩ := hp1.2.1 HV.out; obtain ⟨_, a1, c1, rfl⟩ := hv1.form; have hb1 := hp1.2.2; have HV1 := Lib.hid hv1; clear hp1 hv1)
          go_ret2
          exact ⟨hbl.trans (hb1.mono hbl.size), .inr ⟨_, _, rfl, ⟨by omega, HSM.out, HV.out⟩, HV1.out⟩⟩
        · have HV := Lib.hid hv
          have dv : ((validE lib).2 == 0) = false := by simp [hv]
          clear hv
          go_wp2_with (go_at_call 34; refine HNO.out.mono ?_; intro e w1 hp1; obtain rfl := hp1.1 HV.out; have hb1 := hp1.2.2; clear hp1)
          go_ret2
          exact ⟨hbl.trans (hb1.mono hbl.size), .inl ⟨_, _, _, rfl⟩⟩
end Go.Proofs.YtkemieppamdniaaGreatDoor
/- Walks of package backsteplaw40: awake. -/
namespace Go.Proofs.YtkemieppamdniaaGreatDoor
set_option linter.unusedVariables false
open Go.RowKit

/-- the example of the chapter -/
def exBody : Nd := .mk 82 10 ⟨#[]⟩ [.mk 81 0 ⟨#[120]⟩ [], .mk 81 0 ⟨#[120]⟩ []]
def exLib : List Fn := [⟨⟨#[102]⟩, [⟨⟨#[120]⟩, false⟩], false, exBody⟩]
def exFn : AFn := ⟨⟨#[102]⟩, [⟨⟨#[120]⟩, false⟩], false, [⟨tname 0, false⟩], [.mk (tname 0) false 82 10 ByteArray.empty [⟨#[120]⟩, ⟨#[120]⟩] [] []], tname 0⟩
theorem ex_valid : (validE exLib).2 = 0 := by decide +kernel
theorem ex_norm : normL exLib = [exFn] := rfl
theorem t0_name : tname 0 = ⟨#[116, 48]⟩ := by unfold tname; rw [Lib.decDigits_one (by omega)]; rfl
def exInner : Nd := blockN [plusN (tname 0) (nodeN 10 ByteArray.empty [vN ⟨#[120]⟩, vN ⟨#[120]⟩]), nodeN 42 ByteArray.empty [vN outS, vN (tname 0)], .mk 41 0 ByteArray.empty [vN (tname 0), nodeN 10 ByteArray.empty [vN ⟨#[120]⟩, vN ⟨#[120]⟩]]]
theorem ex_proc : procB exFn = blockN [nodeN 54 (tname 0) [numN 0, exInner, numN 0]] := rfl
theorem ex_depth : ¬ 80 < depthN (procB exFn) := by rw [ex_proc]; decide +kernel
theorem ex_size : sizeN (procB exFn) ≤ 2000 := by rw [ex_proc]; decide +kernel
theorem ex_pars : paramsN exFn = [dclN ⟨#[120]⟩ false, dclN outS false] := rfl
end Go.Proofs.YtkemieppamdniaaGreatDoor
/- The example in the heap; an element of a row of normalized functions. -/
namespace Go.Proofs.YtkemieppamdniaaGreatDoor
set_option linter.unusedVariables false
open Go.RowKit

theorem afn_at {A : Nat → Prop} {w : World} {v : Value} {l : List AFn} (h : AFnsAt A w v l) {j : Nat} (hj : j < l.length) :
    ∃ b off cap pa pc ta tc ba bc, v = .slice (some ⟨b, off, none⟩) l.length cap ∧ b < w.heap.size ∧ l.length ≤ cap ∧ w.cell? ⟨b, off + j * 6, none⟩ = some (.string (at' l j).name) ∧ w.cell? ⟨b, off + j * 6 + 1, none⟩ = some (.slice pa (at' l j).params.length pc) ∧ w.cell? ⟨b, off + j * 6 + 2, none⟩ = some (.bool (at' l j).list) ∧
      w.cell? ⟨b, off + j * 6 + 3, none⟩ = some (.slice ta (at' l j).temps.length tc) ∧ w.cell? ⟨b, off + j * 6 + 4, none⟩ = some (.slice ba (at' l j).body.length bc) ∧ w.cell? ⟨b, off + j * 6 + 5, none⟩ = some (.string (at' l j).result) ∧
      ParsAt A w (.slice pa (at' l j).params.length pc) (at' l j).params ∧ ParsAt A w (.slice ta (at' l j).temps.length tc) (at' l j).temps ∧ BdsAt A w (.slice ba (at' l j).body.length bc) (at' l j).body ∧ (at' l j).name.size ≤ maxLen ∧ (at' l j).result.size ≤ maxLen := by
  obtain ⟨cs, h, hf⟩ := h
  obtain ⟨b, off, cap, rfl, h1, h2, h3, h4⟩ := h.at hj
  have e := hf j hj
  obtain ⟨_, pa, pc, f1⟩ := e.c1.form
  obtain ⟨_, ta, tc, f3⟩ := e.c3.form
  obtain ⟨_, ba, bc, f4⟩ := e.c4.form
  have g1 := h4 1 (by omega)
  have g3 := h4 3 (by omega)
  have g4 := h4 4 (by omega)
  have e1 := e.c1
  have e3 := e.c3
  have e4 := e.c4
  rw [f1] at g1 e1
  rw [f3] at g3 e3
  rw [f4] at g4 e4
  exact ⟨b, off, cap, pa, pc, ta, tc, ba, bc, rfl, h1, h2, by rw [← e.c0]; exact h4 0 (by omega), g1, by rw [← e.c2]; exact h4 2 (by omega), g3, g4, by rw [← e.c5]; exact h4 5 (by omega), e1, e3, e4, e.s0, e.s5⟩

theorem ex_fns {w : World} {g1 g2 g3 : Nat} (h1 : w.heap[g1]? = some (.cells #[.string ⟨#[120]⟩, .bool false] 57 (0, 0))) (h2 : w.heap[g2]? = some (.cells #[.int .u8 81, .int .i64 0, .string ⟨#[120]⟩, .slice none 0 0, .int .u8 81, .int .i64 0, .string ⟨#[120]⟩, .slice none 0 0] 35 (0, 0)))
    (h3 : w.heap[g3]? = some (.cells #[.string ⟨#[102]⟩, .slice (some ⟨g1, 0, none⟩) 1 1, .bool false, .int .u8 82, .int .i64 10, .string ⟨#[]⟩, .slice (some ⟨g2, 0, none⟩) 2 2] 37 (0, 0))) : FnsAt Any w (.slice (some ⟨g3, 0, none⟩) 1 1) exLib := by
  have l1 : g1 < w.heap.size := by rw [Array.getElem?_eq_some_iff] at h1; exact h1.1
  have l3 : g3 < w.heap.size := by rw [Array.getElem?_eq_some_iff] at h3; exact h3.1
  have hp : ParsAt Any w (.slice (some ⟨g1, 0, none⟩) 1 1) [⟨⟨#[120]⟩, false⟩] := by
    refine ⟨fun j i => if i = 0 then .string ⟨#[120]⟩ else .bool false, ⟨by unfold maxLen; simp, _, _, rfl, Nat.le_refl _, nofun, fun _ => ⟨g1, 0, rfl, l1, trivial, fun j hj i hi => ?_⟩⟩, fun j hj => ?_⟩
    · obtain rfl : j = 0 := by simp at hj; exact hj
      match i, hi with
      | 0, _ => exact cell_blk h1 0 rfl
      | 1, _ => exact cell_blk h1 1 rfl
    · obtain rfl : j = 0 := by simp at hj; exact hj
      exact ⟨rfl, rfl, by unfold maxLen; decide⟩
  have hv : NdAt Any w (.agg #[.int .u8 81, .int .i64 0, .string ⟨#[120]⟩, .slice none 0 0]) (.mk 81 0 ⟨#[120]⟩ []) := ⟨⟨⟨by decide, by decide⟩, by unfold In64; exact ⟨by decide, by decide⟩, by unfold maxLen; decide⟩, _, rfl, KidsAt.nil _⟩
  have hk : KidsAt Any w (.slice (some ⟨g2, 0, none⟩) 2 2) exBody.kids := kids_2 h2 trivial hv hv
  refine ⟨fun j i => #[Value.string ⟨#[102]⟩, .slice (some ⟨g1, 0, none⟩) 1 1, .bool false, .int .u8 82, .int .i64 10, .string ⟨#[]⟩, .slice (some ⟨g2, 0, none⟩) 2 2].getD i undef, ⟨by unfold maxLen; decide, _, _, rfl, Nat.le_refl _, nofun, fun _ => ⟨g3, 0, rfl, l3, trivial, fun j hj i hi => ?_⟩⟩, fun j hj => ?_⟩
  · obtain rfl : j = 0 := by simpa [exLib] using hj
    match i, hi with
    | 0, _ => exact cell_blk h3 0 rfl
    | 1, _ => exact cell_blk h3 1 rfl
    | 2, _ => exact cell_blk h3 2 rfl
    | 3, _ => exact cell_blk h3 3 rfl
    | 4, _ => exact cell_blk h3 4 rfl
    | 5, _ => exact cell_blk h3 5 rfl
    | 6, _ => exact cell_blk h3 6 rfl
  · obtain rfl : j = 0 := by simpa [exLib] using hj
    exact ⟨rfl, by show (⟨#[102]⟩ : ByteArray).size ≤ maxLen; unfold maxLen; decide, hp, rfl, rfl, rfl, rfl, ⟨⟨by decide, by decide⟩, by unfold In64; exact ⟨by decide, by decide⟩, by show (⟨#[]⟩ : ByteArray).size ≤ maxLen; unfold maxLen; decide⟩, hk⟩
end Go.Proofs.YtkemieppamdniaaGreatDoor
/- Walks of package backsteplaw40: awake. -/
namespace Go.Proofs.YtkemieppamdniaaGreatDoor
set_option linter.unusedVariables false
open Go.RowKit

theorem ex_good : GoodBs exLib exFn.body := (norm_good ex_valid (i := 0) (by decide)).1.body
theorem kid_at {A : Nat → Prop} {w : World} {ka : Option Addr} {kn kc : Nat} {kids : List Nd} (h : KidsAt A w (.slice ka kn kc) kids) (j : Nat) (hj : j < kids.length) : ∃ b off a c, ka = some ⟨b, off, none⟩ ∧ kn = kids.length ∧ kids.length ≤ kc ∧ b < w.heap.size ∧ w.cell? ⟨b, off + j * 4, none⟩ = some (.int .u8 (at' kids j).kind) ∧ w.cell? ⟨b, off + j * 4 + 1, none⟩ = some (.int .i64 (at' kids j).num) ∧ w.cell? ⟨b, off + j * 4 + 2, none⟩ = some (.string (at' kids j).name) ∧ w.cell? ⟨b, off + j * 4 + 3, none⟩ = some (.slice a (at' kids j).kids.length c) ∧ KidsAt A w (.slice a (at' kids j).kids.length c) (at' kids j).kids := by
  obtain ⟨b, off, cap, a, c, he, hb, hc, _, c0, c1, c2, c3, hn⟩ := h.at hj
  simp only [Value.slice.injEq] at he
  obtain ⟨rfl, rfl, rfl⟩ := he
  exact ⟨b, off, a, c, rfl, rfl, hc, hb, c0, c1, c2, c3, (nd_cells hn).2.2.2.1⟩

set_option maxRecDepth 100000 in
set_option maxHeartbeats 6400000 in
theorem awake_any (w : World) (ht : Tab w) : Calls Tryz.prog 10 #[] w fun e w' => e = .returned (.bool true) ∧ Below w.heap.size w w' := by
  have hA : Below w.heap.size w ((((w.alloc (.cells #[.int .u8 81, .int .i64 0, .string ⟨#[120]⟩, .slice none 0 0] 35)).alloc (.cells #[.string ⟨#[120]⟩, .bool false] 57)).alloc (.cells #[.int .u8 81, .int .i64 0, .string ⟨#[120]⟩, .slice none 0 0, .int .u8 81, .int .i64 0, .string ⟨#[120]⟩, .slice none 0 0] 35)).alloc (.cells #[.string ⟨#[102]⟩, .slice (some ⟨w.heap.size + 1, 0, none⟩) 1 1, .bool false, .int .u8 82, .int .i64 10, .string ⟨#[]⟩, .slice (some ⟨w.heap.size + 1 + 1, 0, none⟩) 2 2] 37)) := ((((Below.refl _ _).alloc (Nat.le_refl _) _).alloc (by simp) _).alloc (by simp; omega) _).alloc (by simp; omega) _
  have HNO : Hid (Calls Tryz.prog 34 #[.slice (some ⟨w.heap.size + 1 + 1 + 1, 0, none⟩) 1 1] ((((w.alloc (.cells #[.int .u8 81, .int .i64 0, .string ⟨#[120]⟩, .slice none 0 0] 35)).alloc (.cells #[.string ⟨#[120]⟩, .bool false] 57)).alloc (.cells #[.int .u8 81, .int .i64 0, .string ⟨#[120]⟩, .slice none 0 0, .int .u8 81, .int .i64 0, .string ⟨#[120]⟩, .slice none 0 0] 35)).alloc (.cells #[.string ⟨#[102]⟩, .slice (some ⟨w.heap.size + 1, 0, none⟩) 1 1, .bool false, .int .u8 82, .int .i64 10, .string ⟨#[]⟩, .slice (some ⟨w.heap.size + 1 + 1, 0, none⟩) 2 2] 37)) (NormPost exLib ((((w.alloc (.cells #[.int .u8 81, .int .i64 0, .string ⟨#[120]⟩, .slice none 0 0] 35)).alloc (.cells #[.string ⟨#[120]⟩, .bool false] 57)).alloc (.cells #[.int .u8 81, .int .i64 0, .string ⟨#[120]⟩, .slice none 0 0, .int .u8 81, .int .i64 0, .string ⟨#[120]⟩, .slice none 0 0] 35)).alloc (.cells #[.string ⟨#[102]⟩, .slice (some ⟨w.heap.size + 1, 0, none⟩) 1 1, .bool false, .int .u8 82, .int .i64 10, .string ⟨#[]⟩, .slice (some ⟨w.heap.size + 1 + 1, 0, none⟩) 2 2] 37)))) := Lib.hid (normalizeL_any _ exLib Any _ (ex_fns (g1 := w.heap.size + 1) (g2 := w.heap.size + 1 + 1) (by (repeat (with_reducible first | (refine blk_new ?_; (simp; done)) | refine blk_drew ?_ | refine blk_alloc ?_ | (apply blk_below; focus assumption)))) (by (repeat (with_reducible first | (refine blk_new ?_; (simp; done)) | refine blk_drew ?_ | refine blk_alloc ?_ | (apply blk_below; focus assumption)))) (by (repeat (with_reducible first | (refine blk_new ?_; (simp; done)) | refine blk_drew ?_ | refine blk_alloc ?_ | (apply blk_below; focus assumption))))) (fun j hj => by
    obtain rfl : j = 0 := by simpa [exLib] using hj
    show sizeN exBody ≤ 20000
    decide +kernel) (ht.below hA))
  clear ht
  go_enter Tryz.func10, Tryz.ntmps10
  go_wp2_with fail
  generalize ((((w.alloc (.cells #[.int .u8 81, .int .i64 0, .string ⟨#[120]⟩, .slice none 0 0] 35)).alloc (.cells #[.string ⟨#[120]⟩, .bool false] 57)).alloc (.cells #[.int .u8 81, .int .i64 0, .string ⟨#[120]⟩, .slice none 0 0, .int .u8 81, .int .i64 0, .string ⟨#[120]⟩, .slice none 0 0] 35)).alloc (.cells #[.string ⟨#[102]⟩, .slice (some ⟨w.heap.size + 1, 0, none⟩) 1 1, .bool false, .int .u8 82, .int .i64 10, .string ⟨#[]⟩, .slice (some ⟨w.heap.size + 1 + 1, 0, none⟩) 2 2] 37)) = W at *
  refine HNO.out.mono ?_
  intro e w1 hp1
  obtain ⟨v, rfl, hv1⟩ := hp1.2.1 ex_valid
  have hb1 := hp1.2.2
  rw [ex_norm] at hv1
  obtain ⟨b, off, cap, pa, pc, ta, tc, ba, bc, rfl, hb, hcap, m0, m1, m2, m3, m4, m5, hpp, htt, hbb, hs0, hs5⟩ := afn_at hv1 (j := 0) (by simp)
  simp only [show at' [exFn] 0 = exFn from rfl, Nat.zero_mul, Nat.add_zero, List.length_singleton] at *
  have HPC := Lib.hid (proc_C exFn exLib pa ta ba pc tc bc w1 hpp htt hbb hs5 ex_good (by decide +kernel) (by decide +kernel) (by decide +kernel) (Nat.le_trans ex_size (by omega)))
  clear hp1 hv1 hpp htt hbb hs0 hs5 HNO
  go_wp2_with fail
  refine HPC.out.mono ?_
  intro e w2 hp2
  have hb2 := hp2.1
  obtain ⟨a, c, ka, kn, kc, rfl, hrow, hnd⟩ := hp2.2.2.2 ex_depth (by have := ex_size; rw [ex_pars]; simp; omega)
  rw [show (paramsN exFn).length = 2 from by rw [ex_pars]; rfl] at *
  rw [ex_pars] at hrow
  rw [ex_proc] at hnd
  obtain ⟨bp, op, capp, cs, hep, hbp, hcp, _, hcs, hC⟩ := hrow.at (j := 1) (by simp)
  obtain rfl : a = some ⟨bp, op, none⟩ := by simp only [Value.slice.injEq] at hep; exact hep.1
  obtain rfl : c = capp := by simp only [Value.slice.injEq] at hep; exact hep.2.2
  have p0 : w2.cell? ⟨bp, op + 1 * 3 + 0, none⟩ = some (.string ⟨#[111, 117, 116]⟩) := by
    have h := hcs 0 (by show 0 < 3; omega)
    have h2 : cs 0 = .string outS := hC.1
    rw [h2] at h
    exact h
  have hk0 : KidsAt (Up w1.heap.size) w2 (.slice ka kn kc) [nodeN 54 (tname 0) [numN 0, exInner, numN 0]] := (nd_cells hnd).2.2.2.1
  obtain ⟨b0, o0, a1, c1, rfl, rfl, hkc, hb0, q0, q1, q2, q3, hk1⟩ := kid_at hk0 0 (by simp)
  have hk1' : KidsAt (Up w1.heap.size) w2 (.slice a1 3 c1) [numN 0, exInner, numN 0] := hk1
  obtain ⟨b1, o1, a2, c2, rfl, _, hkc1, hb1', r0, r1, r2, r3, hk2⟩ := kid_at hk1' 1 (by simp)
  have hk2' : KidsAt (Up w1.heap.size) w2 (.slice a2 3 c2) exInner.kids := hk2
  obtain ⟨b2, o2, a3, c3, rfl, _, hkc2, hb2', s0, s1, s2, s3, _⟩ := kid_at hk2' 1 (by show 1 < 3; omega)
  have e0 : w2.cell? ⟨b0, o0 + 0 * 4, none⟩ = some (.int .u8 54) := q0
  have e1 : w2.cell? ⟨b0, o0 + 0 * 4 + 1, none⟩ = some (.int .i64 0) := q1
  have e2 : w2.cell? ⟨b0, o0 + 0 * 4 + 2, none⟩ = some (.string ⟨#[116, 48]⟩) := by rw [← t0_name]; exact q2
  have e3 : w2.cell? ⟨b0, o0 + 0 * 4 + 3, none⟩ = some (.slice (some ⟨b1, o1, none⟩) 3 c1) := q3
  have e4 : w2.cell? ⟨b1, o1 + 1 * 4 + 3, none⟩ = some (.slice (some ⟨b2, o2, none⟩) 3 c2) := r3
  have e5 : w2.cell? ⟨b2, o2 + 1 * 4, none⟩ = some (.int .u8 42) := s0
  simp only [Nat.zero_mul, Nat.add_zero, Nat.one_mul] at e0 e1 e2 e3 e4 e5 p0
  have hcc : 3 ≤ c1 := hkc1
  have hcc2 : 3 ≤ c2 := hkc2
  have hcp2 : 2 ≤ c := hcp
  have hkc3 : 1 ≤ kc := hkc
  have HF : Hid (∀ w', Below w2.heap.size w2 w' → w'.cell? ⟨bp, op + 3, none⟩ = some (.string ⟨#[111, 117, 116]⟩) ∧ w'.cell? ⟨b0, o0, none⟩ = some (.int .u8 54) ∧ w'.cell? ⟨b0, o0 + 1, none⟩ = some (.int .i64 0) ∧ w'.cell? ⟨b0, o0 + 2, none⟩ = some (.string ⟨#[116, 48]⟩) ∧ w'.cell? ⟨b0, o0 + 3, none⟩ = some (.slice (some ⟨b1, o1, none⟩) 3 c1) ∧ w'.cell? ⟨b1, o1 + 4 + 3, none⟩ = some (.slice (some ⟨b2, o2, none⟩) 3 c2) ∧ w'.cell? ⟨b2, o2 + 4, none⟩ = some (.int .u8 42)) := Lib.hid (fun w' hw => ⟨(hw.cell hbp).trans p0, (hw.cell hb0).trans e0, (hw.cell hb0).trans e1, (hw.cell hb0).trans e2, (hw.cell hb0).trans e3, (hw.cell hb1').trans e4, (hw.cell hb2').trans e5⟩)
  have hW5 : Below w2.heap.size w2 (w2.alloc (.cells #[.string ⟨#[102]⟩, .slice (some ⟨bp, op, none⟩) 2 c, .int .u8 57, .int .i64 0, .string ⟨#[]⟩, .slice (some ⟨b0, o0, none⟩) 1 kc] 52)) := (Below.refl _ _).alloc (Nat.le_refl _) _
  have hW7 : Below w2.heap.size w2 ((w2.alloc (.cells #[.string ⟨#[102]⟩, .slice (some ⟨bp, op, none⟩) 2 c, .int .u8 57, .int .i64 0, .string ⟨#[]⟩, .slice (some ⟨b0, o0, none⟩) 1 kc] 52)).alloc (.cells #[.int .u8 54, .int .i64 0, .string ⟨#[116, 48]⟩, .slice (some ⟨b1, o1, none⟩) 3 c1] 35)) := bel_alloc hW5
  have HE : Hid (Below w.heap.size w w2) := Lib.hid (hA.trans ((hb1.trans (hb2.mono hb1.size)).mono hA.size))
  clear hp2 hrow hnd hk0 hk1 hk1' hk2 hk2' q0 q1 q2 q3 r0 r1 r2 r3 s0 s1 s2 s3 hcs hC hep p0 HPC m0 m1 m2 m3 m4 m5 hcap
  obtain ⟨x0, x1, x2, x3, x4, x5, x6⟩ := HF.out w2 (Below.refl _ _)
  clear hW5 hW7
  rw [show exFn.name = (⟨#[102]⟩ : ByteArray) from rfl]
  go_wp2
  go_ret
  exact ⟨rfl, bel_alloc (bel_alloc HE.out)⟩
end Go.Proofs.YtkemieppamdniaaGreatDoor
/- Walks of package backsteplaw40: the function value of CleangenCompute. -/
namespace Go.Proofs.YtkemieppamdniaaGreatDoor
set_option linter.unusedVariables false
open Go.RowKit

end Go.Proofs.YtkemieppamdniaaGreatDoor
/- CleangenCompute: the targets; Compute without a function. -/
namespace Go.Proofs.YtkemieppamdniaaGreatDoor
set_option linter.unusedVariables false
open Go.RowKit

/-- names of a valid library are apart -/
theorem names_apart {lib : List Fn} (h : (validE lib).2 = 0) : ∀ i j, i < j → j < lib.length → (at' lib i).name ≠ (at' lib j).name := by
  intro i j hij hj e
  have hv := (valid_ok h hj).first
  apply hv
  have : ∀ (l : List Fn) (b : Int) (i : Nat), i < l.length → (at' l i).name = (at' lib j).name → findFrom (at' lib j).name l b ≤ b + i := by
    intro l
    induction l with
    | nil => intro b i hi; simp at hi
    | cons f r ih =>
      intro b i hi he
      rw [findFrom]
      split
      · omega
      · cases i with
        | zero => rename_i hne; exact absurd he hne
        | succ i => have := ih (b + 1) i (by simpa using hi) he; push_cast; omega
  have h2 := this lib 0 i (by omega) e
  unfold findF
  omega
end Go.Proofs.YtkemieppamdniaaGreatDoor
