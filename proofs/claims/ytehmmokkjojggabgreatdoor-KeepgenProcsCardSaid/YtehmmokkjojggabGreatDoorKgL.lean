/- Walks of package backsteplaw41: leaf, wrapped. -/
import Derived.Test.YtehmmokkjojggabGreatDoorKgA
import Derived.Test.YtehmmokkjojggabGreatDoorZq28
namespace Go.Proofs.YtehmmokkjojggabGreatDoor
set_option linter.unusedVariables false
set_option linter.unusedSimpArgs false
open Go.RowKit

theorem leaf_T (s : ByteArray) (w : World) :
    Calls Tryz.prog 29 #[.string s] w fun e w' => e = .returned (.agg #[.int .u8 2, .int .i64 0, .string s, .slice none 0 0]) ∧ Below w.heap.size w w' := by
  go_enter Tryz.func29, Tryz.ntmps29
  go_wp2
  go_returns
  exact ⟨rfl, (Below.refl _ _).alloc (Nat.le_refl _) _⟩
/-- where the data of the tree under way lie: not in the four variables of the call -/
def WD (w : World) (k : Nat) : Prop := k < w.heap.size ∨ w.heap.size + 4 ≤ k
/-- the state of the loop -/
structure WRel (g : AFn) (pa ta ba : Option Addr) (pc tc bc : Nat) (L : List Nd) (w : World) (j : Int) (a : Option Addr) (n c : Nat) (wr : World) : Prop where
  f : wr.heap[w.heap.size]? = some (.cells #[.string g.name, .slice pa g.params.length pc, .bool g.list, .slice ta g.temps.length tc, .slice ba g.body.length bc, .string g.result] 31 (0, 0))
  r : wr.heap[w.heap.size + 1]? = some (.cells #[.int .u8 0, .int .i64 0, .string ⟨#[]⟩, .slice none 0 0] 35 (0, 0))
  b : wr.heap[w.heap.size + 1 + 1]? = some (.cells #[.int .u8 57, .int .i64 0, .string ⟨#[]⟩, .slice a n c] 35 (0, 0))
  z : wr.heap[w.heap.size + 1 + 1 + 1]? = some (.cells #[.int .u8 1, .int .i64 0, .string ⟨#[]⟩, .slice none 0 0] 35 (0, 0))
  nd : NdAt (WD w) wr (.agg #[.int .u8 57, .int .i64 0, .string ⟨#[]⟩, .slice a n c]) ((g.temps.drop (j + 1).toNat).foldr locN (blockN L))
  be : Below w.heap.size w wr
theorem WRel.lt {g : AFn} {pa ta ba : Option Addr} {pc tc bc : Nat} {L : List Nd} {w wr : World} {j : Int} {a : Option Addr} {n c : Nat} (h : WRel g pa ta ba pc tc bc L w j a n c wr) : w.heap.size + 4 ≤ wr.heap.size := by
  have := h.z
  rw [Array.getElem?_eq_some_iff] at this
  have := this.1
  omega
theorem wrel_step {g : AFn} {pa ta ba : Option Addr} {pc tc bc : Nat} {L : List Nd} {w wr w8 : World} {q : Nat} {j : Int} {a ka : Option Addr} {n c kn kc : Nat} {x : Nd} (hq : q < g.temps.length) (h : WRel g pa ta ba pc tc bc L w j a n c wr) (hx : blockN [x] = locN (at' g.temps q) ((g.temps.drop (q + 1)).foldr locN (blockN L))) (hb : Below wr.heap.size wr w8) (hk : KidsAt (WD w) w8 (.slice ka kn kc) [x]) :
    WRel g pa ta ba pc tc bc L w ((q : Int) - 1) ka kn kc ((((w8.setCell ⟨w.heap.size + 1 + 1, 0, none⟩ (.int .u8 57)).setCell ⟨w.heap.size + 1 + 1, 1, none⟩ (.int .i64 0)).setCell ⟨w.heap.size + 1 + 1, 2, none⟩ (.string ⟨#[]⟩)).setCell ⟨w.heap.size + 1 + 1, 3, none⟩ (.slice ka kn kc)) := by
  have hK4 := (((keeps_set w8 (w.heap.size + 1 + 1) 0 (.int .u8 57)).same (keeps_set _ (w.heap.size + 1 + 1) 1 (.int .i64 0))).same (keeps_set _ (w.heap.size + 1 + 1) 2 (.string ⟨#[]⟩))).same (keeps_set _ (w.heap.size + 1 + 1) 3 (.slice ka kn kc))
  refine ⟨blk_sets4 (blk_below hb h.f) (by omega), blk_sets4 (blk_below hb h.r) (by omega), set4 (blk_below hb h.b) _ _ _ _, blk_sets4 (blk_below hb h.z) (by omega), ?_, bel_sets4 (h.be.trans (hb.mono h.be.size)) (by omega)⟩
  rw [show ((q : Int) - 1 + 1).toNat = q by omega, locals_drop g.temps (blockN L) q hq, ← hx]
  refine nd_node (hk.stays ⟨hK4.size, fun b hb a => ⟨hK4.block b hb (fun e => ?_), a⟩⟩) (by omega) (Nat.zero_le _)
  rcases a with a | a <;> omega
set_option maxRecDepth 100000 in
set_option maxHeartbeats 6400000 in
theorem wrapped_T (g : AFn) (pa ta ba : Option Addr) (pc tc bc : Nat) (la : Option Addr) (lc : Nat) (L : List Nd) (w : World) (ht : ParsAt Any w (.slice ta g.temps.length tc) g.temps) (hL : KidsAt Any w (.slice la L.length lc) L) (hl : g.temps.length ≤ 100000) :
    Calls Tryz.prog 32 #[.agg #[.string g.name, .slice pa g.params.length pc, .bool g.list, .slice ta g.temps.length tc, .slice ba g.body.length bc, .string g.result], .slice la L.length lc] w fun e w' => ∃ a n c, e = .returned (.agg #[.int .u8 57, .int .i64 0, .string ⟨#[]⟩, .slice a n c]) ∧ NdAt Any w' (.agg #[.int .u8 57, .int .i64 0, .string ⟨#[]⟩, .slice a n c]) (localsN g.temps (blockN L)) ∧ Below w.heap.size w w' := by
  obtain ⟨W, hW⟩ : ∃ W, W = (((w.alloc (.cells #[.string g.name, .slice pa g.params.length pc, .bool g.list, .slice ta g.temps.length tc, .slice ba g.body.length bc, .string g.result] 31)).alloc (.cells #[.int .u8 0, .int .i64 0, .string ⟨#[]⟩, .slice none 0 0] 35)).alloc (.cells #[.int .u8 57, .int .i64 0, .string ⟨#[]⟩, .slice la L.length lc] 35)).alloc (.cells #[.int .u8 1, .int .i64 0, .string ⟨#[]⟩, .slice none 0 0] 35) := ⟨_, rfl⟩
  have HR0 : Hid (WRel g pa ta ba pc tc bc L w ((g.temps.length : Int) - 1) la L.length lc W) := Lib.hid (by
    subst hW
    refine ⟨blk_alloc (blk_alloc (at_old _ _ _)), blk_alloc (blk_alloc (at_new _ _ _)), blk_alloc (blk_new (by simp)), blk_new (by simp), ?_, bel_alloc (bel_alloc (bel_alloc (bel_alloc (Below.refl _ _))))⟩
    rw [show ((g.temps.length : Int) - 1 + 1).toNat = g.temps.length by omega, List.drop_length]
    exact nd_node (k := 57) (hL.stays ⟨by simp; omega, fun b hb _ => ⟨(bel_alloc (bel_alloc (bel_alloc (bel_alloc (Below.refl w.heap.size w))))).block b hb, .inl hb⟩⟩) (by omega) (Nat.zero_le _))
  have HP := Lib.hid ht
  clear ht hL
  subst hW
  go_enter Tryz.func32, Tryz.ntmps32
  go_wp2
  generalize ((((w.alloc (.cells #[.string g.name, .slice pa g.params.length pc, .bool g.list, .slice ta g.temps.length tc, .slice ba g.body.length bc, .string g.result] 31)).alloc (.cells #[.int .u8 0, .int .i64 0, .string ⟨#[]⟩, .slice none 0 0] 35)).alloc (.cells #[.int .u8 57, .int .i64 0, .string ⟨#[]⟩, .slice la L.length lc] 35)).alloc (.cells #[.int .u8 1, .int .i64 0, .string ⟨#[]⟩, .slice none 0 0] 35)) = W at *
  go_loopw [7] (fun i wr => ∃ (j : Int) (a : Option Addr) (n c : Nat), i = .int .i64 j ∧ -1 ≤ j ∧ j < g.temps.length ∧ WRel g pa ta ba pc tc bc L w j a n c wr) (fun i _ => (intOf i + 1).toNat)
  case atStart => exact ⟨_, _, _, _, rfl, by omega, by omega, HR0.out⟩
  case round =>
    obtain ⟨j, xa, xn, xc, rfl, hj0, hj1, hR⟩ := hrel
    have HR := Lib.hid hR
    have hbl := hR.be
    obtain ⟨f0, f1, f2, f3, f4, f5⟩ := cells6 hR.f
    by_cases hpos : 0 ≤ j
    · obtain ⟨q, rfl⟩ := Int.eq_ofNat_of_zero_le hpos
      have hq : q < g.temps.length := by omega
      obtain ⟨b, off, cap, he, hb, _, _, c0, c1, hsz⟩ := (HP.out.stays (Stays.of_below hbl)).at hq
      simp only [Value.slice.injEq] at he
      obtain ⟨rfl, -, rfl⟩ := he
      obtain ⟨nm, hnm⟩ : ∃ nm, nm = (at' g.temps q).name := ⟨_, rfl⟩
      have HNM := Lib.hid hnm
      have HG : Hid (∀ w1, Below wr.heap.size wr w1 → (w1.cell? ⟨w.heap.size + 1 + 1 + 1, 0, none⟩ = some (.int .u8 1) ∧ w1.cell? ⟨w.heap.size + 1 + 1 + 1, 1, none⟩ = some (.int .i64 0) ∧ w1.cell? ⟨w.heap.size + 1 + 1 + 1, 2, none⟩ = some (.string ⟨#[]⟩) ∧ w1.cell? ⟨w.heap.size + 1 + 1 + 1, 3, none⟩ = some (.slice none 0 0)) ∧ (w1.cell? ⟨w.heap.size + 1 + 1, 0, none⟩ = some (.int .u8 57) ∧ w1.cell? ⟨w.heap.size + 1 + 1, 1, none⟩ = some (.int .i64 0) ∧ w1.cell? ⟨w.heap.size + 1 + 1, 2, none⟩ = some (.string ⟨#[]⟩) ∧ w1.cell? ⟨w.heap.size + 1 + 1, 3, none⟩ = some (.slice xa xn xc)) ∧ ∀ j, w1.frozen? ⟨w.heap.size + 1 + 1, j, none⟩ = false) := Lib.hid (fun w1 h => ⟨cells4 (blk_below h hR.z), cells4 (blk_below h hR.b), unfrozen (blk_below h hR.b)⟩)
      have i0 : (0 : Int) ≤ (q : Int) := by omega
      have i1 : (q : Int) < (g.temps.length : Int) := by omega
      clear hR hbl
      cases hlist : (at' g.temps q).list with
      | true =>
        rw [hlist] at c1
        have HL := Lib.hid hlist
        clear hlist
        rw [← hnm] at c0
        obtain ⟨⟨z0, z1, z2, z3⟩, ⟨b0, b1, b2, b3⟩, bf⟩ := HG.out (wr.alloc (.cells #[.string nm, .bool true] 57)) (bel_alloc (Below.refl _ _))
        obtain ⟨-, ⟨d0, d1, d2, d3⟩, df⟩ := HG.out (((wr.alloc (.cells #[.string nm, .bool true] 57)).alloc (.cells #[.int .u8 1, .int .i64 0, .string ⟨#[]⟩, .slice none 0 0, .int .u8 57, .int .i64 0, .string ⟨#[]⟩, .slice xa xn xc, .int .u8 1, .int .i64 0, .string ⟨#[]⟩, .slice none 0 0] 35)).alloc (.cells #[.int .u8 54, .int .i64 0, .string nm, .slice (some ⟨wr.heap.size + 1, 0, none⟩) 3 3] 35)) (bel_alloc (bel_alloc (bel_alloc (Below.refl _ _))))
        obtain ⟨-, ⟨e0, e1, e2, e3⟩, ef⟩ := HG.out (((((wr.alloc (.cells #[.string nm, .bool true] 57)).alloc (.cells #[.int .u8 1, .int .i64 0, .string ⟨#[]⟩, .slice none 0 0, .int .u8 57, .int .i64 0, .string ⟨#[]⟩, .slice xa xn xc, .int .u8 1, .int .i64 0, .string ⟨#[]⟩, .slice none 0 0] 35)).alloc (.cells #[.int .u8 55, .int .i64 0, .string nm, .slice (some ⟨wr.heap.size + 1 + 1 + 1, 0, none⟩) 1 1] 35)).alloc (.cells #[.int .u8 57, .int .i64 0, .string ⟨#[]⟩, .slice xa xn xc] 35)).alloc (.cells #[.int .u8 55, .int .i64 0, .string nm, .slice (some ⟨wr.heap.size + 1 + 1 + 1, 0, none⟩) 1 1] 35)) (bel_alloc (bel_alloc (bel_alloc (bel_alloc (bel_alloc (Below.refl _ _))))))
        have HX : Hid (blockN [nodeN 55 nm [(g.temps.drop (q + 1)).foldr locN (blockN L)]] = locN (at' g.temps q) ((g.temps.drop (q + 1)).foldr locN (blockN L))) := Lib.hid (by rw [locN, HL.out, hnm]; rfl)
        have HW : Hid (WRel g pa (some ⟨b, off, none⟩) ba pc tc bc L w ((q : Int) - 1) (some ⟨wr.heap.size + 1 + 1 + 1 + 1, 0, none⟩) 1 1 (((((((((wr.alloc (.cells #[.string nm, .bool true] 57)).alloc (.cells #[.int .u8 1, .int .i64 0, .string ⟨#[]⟩, .slice none 0 0, .int .u8 57, .int .i64 0, .string ⟨#[]⟩, .slice xa xn xc, .int .u8 1, .int .i64 0, .string ⟨#[]⟩, .slice none 0 0] 35)).alloc (.cells #[.int .u8 55, .int .i64 0, .string nm, .slice (some ⟨wr.heap.size + 1 + 1 + 1, 0, none⟩) 1 1] 35)).alloc (.cells #[.int .u8 57, .int .i64 0, .string ⟨#[]⟩, .slice xa xn xc] 35)).alloc (.cells #[.int .u8 55, .int .i64 0, .string nm, .slice (some ⟨wr.heap.size + 1 + 1 + 1, 0, none⟩) 1 1] 35)).setCell ⟨w.heap.size + 1 + 1, 0, none⟩ (.int .u8 57)).setCell ⟨w.heap.size + 1 + 1, 1, none⟩ (.int .i64 0)).setCell ⟨w.heap.size + 1 + 1, 2, none⟩ (.string ⟨#[]⟩)).setCell ⟨w.heap.size + 1 + 1, 3, none⟩ (.slice (some ⟨wr.heap.size + 1 + 1 + 1 + 1, 0, none⟩) 1 1))) := Lib.hid (by
          have hlt := HR.out.lt
          have hb5 := bel_alloc (x := (.cells #[.int .u8 55, .int .i64 0, .string nm, .slice (some ⟨wr.heap.size + 1 + 1 + 1, 0, none⟩) 1 1] 35)) (bel_alloc (x := (.cells #[.int .u8 57, .int .i64 0, .string ⟨#[]⟩, .slice xa xn xc] 35)) (bel_alloc (x := (.cells #[.int .u8 55, .int .i64 0, .string nm, .slice (some ⟨wr.heap.size + 1 + 1 + 1, 0, none⟩) 1 1] 35)) (bel_alloc (x := (.cells #[.int .u8 1, .int .i64 0, .string ⟨#[]⟩, .slice none 0 0, .int .u8 57, .int .i64 0, .string ⟨#[]⟩, .slice xa xn xc, .int .u8 1, .int .i64 0, .string ⟨#[]⟩, .slice none 0 0] 35)) (bel_alloc (x := (.cells #[.string nm, .bool true] 57)) (Below.refl wr.heap.size wr)))))
          have hnd := HR.out.nd.stays (Stays.of_below hb5)
          rw [show ((q : Int) + 1).toNat = q + 1 by omega] at hnd
          exact wrel_step hq HR.out HX.out hb5 (kids_1 (by (repeat (with_reducible first | (refine blk_new ?_; (simp; done)) | (refine blk_new ?_; rfl) | refine blk_drew ?_ | refine blk_alloc ?_ | (apply blk_below; focus assumption)))) (.inr (by omega)) (nd_node (kids_1 (by (repeat (with_reducible first | (refine blk_new ?_; (simp; done)) | (refine blk_new ?_; rfl) | refine blk_drew ?_ | refine blk_alloc ?_ | (apply blk_below; focus assumption)))) (.inr (by omega)) hnd) (by omega) (by rw [hnm]; exact hsz))))
        clear hnm HL HX
        go_wp2
        go_roundw
        case rel => exact ⟨_, _, _, _, rfl, by omega, by omega, HW.out⟩
        case measure => simp [intOf]
      | false =>
        rw [hlist] at c1
        have HL := Lib.hid hlist
        clear hlist
        rw [← hnm] at c0
        obtain ⟨⟨z0, z1, z2, z3⟩, ⟨b0, b1, b2, b3⟩, bf⟩ := HG.out (wr.alloc (.cells #[.string nm, .bool false] 57)) (bel_alloc (Below.refl _ _))
        obtain ⟨-, ⟨e0, e1, e2, e3⟩, ef⟩ := HG.out ((((wr.alloc (.cells #[.string nm, .bool false] 57)).alloc (.cells #[.int .u8 1, .int .i64 0, .string ⟨#[]⟩, .slice none 0 0, .int .u8 57, .int .i64 0, .string ⟨#[]⟩, .slice xa xn xc, .int .u8 1, .int .i64 0, .string ⟨#[]⟩, .slice none 0 0] 35)).alloc (.cells #[.int .u8 54, .int .i64 0, .string nm, .slice (some ⟨wr.heap.size + 1, 0, none⟩) 3 3] 35)).alloc (.cells #[.int .u8 54, .int .i64 0, .string nm, .slice (some ⟨wr.heap.size + 1, 0, none⟩) 3 3] 35)) (bel_alloc (bel_alloc (bel_alloc (bel_alloc (Below.refl _ _)))))
        have HX : Hid (blockN [nodeN 54 nm [numN 0, (g.temps.drop (q + 1)).foldr locN (blockN L), numN 0]] = locN (at' g.temps q) ((g.temps.drop (q + 1)).foldr locN (blockN L))) := Lib.hid (by rw [locN, HL.out, hnm]; rfl)
        have HW : Hid (WRel g pa (some ⟨b, off, none⟩) ba pc tc bc L w ((q : Int) - 1) (some ⟨wr.heap.size + 1 + 1 + 1, 0, none⟩) 1 1 ((((((((wr.alloc (.cells #[.string nm, .bool false] 57)).alloc (.cells #[.int .u8 1, .int .i64 0, .string ⟨#[]⟩, .slice none 0 0, .int .u8 57, .int .i64 0, .string ⟨#[]⟩, .slice xa xn xc, .int .u8 1, .int .i64 0, .string ⟨#[]⟩, .slice none 0 0] 35)).alloc (.cells #[.int .u8 54, .int .i64 0, .string nm, .slice (some ⟨wr.heap.size + 1, 0, none⟩) 3 3] 35)).alloc (.cells #[.int .u8 54, .int .i64 0, .string nm, .slice (some ⟨wr.heap.size + 1, 0, none⟩) 3 3] 35)).setCell ⟨w.heap.size + 1 + 1, 0, none⟩ (.int .u8 57)).setCell ⟨w.heap.size + 1 + 1, 1, none⟩ (.int .i64 0)).setCell ⟨w.heap.size + 1 + 1, 2, none⟩ (.string ⟨#[]⟩)).setCell ⟨w.heap.size + 1 + 1, 3, none⟩ (.slice (some ⟨wr.heap.size + 1 + 1 + 1, 0, none⟩) 1 1))) := Lib.hid (by
          have hlt := HR.out.lt
          have hb5 := bel_alloc (x := (.cells #[.int .u8 54, .int .i64 0, .string nm, .slice (some ⟨wr.heap.size + 1, 0, none⟩) 3 3] 35)) (bel_alloc (x := (.cells #[.int .u8 54, .int .i64 0, .string nm, .slice (some ⟨wr.heap.size + 1, 0, none⟩) 3 3] 35)) (bel_alloc (x := (.cells #[.int .u8 1, .int .i64 0, .string ⟨#[]⟩, .slice none 0 0, .int .u8 57, .int .i64 0, .string ⟨#[]⟩, .slice xa xn xc, .int .u8 1, .int .i64 0, .string ⟨#[]⟩, .slice none 0 0] 35)) (bel_alloc (x := (.cells #[.string nm, .bool false] 57)) (Below.refl wr.heap.size wr))))
          have hnd := HR.out.nd.stays (Stays.of_below hb5)
          rw [show ((q : Int) + 1).toNat = q + 1 by omega] at hnd
          exact wrel_step hq HR.out HX.out hb5 (kids_1 (by (repeat (with_reducible first | (refine blk_new ?_; (simp; done)) | (refine blk_new ?_; rfl) | refine blk_drew ?_ | refine blk_alloc ?_ | (apply blk_below; focus assumption)))) (.inr (by omega)) (nd_node (kids_3 (by (repeat (with_reducible first | (refine blk_new ?_; (simp; done)) | (refine blk_new ?_; rfl) | refine blk_drew ?_ | refine blk_alloc ?_ | (apply blk_below; focus assumption)))) (.inr (by omega)) (nd_num (by unfold In64; omega)) hnd (nd_num (by unfold In64; omega))) (by omega) (by rw [hnm]; exact hsz))))
        clear hnm HL HX
        go_wp2
        go_roundw
        case rel => exact ⟨_, _, _, _, rfl, by omega, by omega, HW.out⟩
        case measure => simp [intOf]
    · obtain rfl : j = -1 := by omega
      have HBL := Lib.hid hbl
      obtain ⟨b0, b1, b2, b3⟩ := cells4 hR.b
      obtain ⟨z0, z1, z2, z3⟩ := cells4 hR.r
      have zf := unfrozen hR.r
      clear hR hbl
      go_wp2
      (try simp only [Exit.inBlock, Exit.then])
      refine bodyPost_ret (results_cell_row (P := Tryz.prog) rfl _ _ (w.heap.size + 1) _ _ _ _ rfl (set4 HR.out.r _ _ _ _) Tryz.underlying35 rfl (by kernel_rfl)) rfl ?_
      have hK4 := (((keeps_set wr (w.heap.size + 1) 0 (.int .u8 57)).same (keeps_set _ (w.heap.size + 1) 1 (.int .i64 0))).same (keeps_set _ (w.heap.size + 1) 2 (.string ⟨#[]⟩))).same (keeps_set _ (w.heap.size + 1) 3 (.slice xa xn xc))
      refine ⟨_, _, _, rfl, ?_, bel_sets4 HBL.out (by omega)⟩
      have hfin := HR.out.nd
      rw [show ((-1 : Int) + 1).toNat = 0 by omega, List.drop_zero] at hfin
      exact hfin.stays ⟨hK4.size, fun b hb a => ⟨hK4.block b hb (fun e => by rcases a with a | a <;> omega), trivial⟩⟩
end Go.Proofs.YtehmmokkjojggabGreatDoor
