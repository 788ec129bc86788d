/- Walks of package backsteplaw41: square; of package keepgen: refers, Garbage, Clean and Proc at the example. -/
import Derived.Test.YtehmmokkjojggabGreatDoorKgD
import Derived.Test.YtehmmokkjojggabGreatDoorZq28
namespace Go.Proofs.YtehmmokkjojggabGreatDoor
set_option linter.unusedVariables false
set_option linter.unusedSimpArgs false
open Go.RowKit

set_option maxRecDepth 100000 in set_option maxHeartbeats 3200000 in theorem square_T (w : World) : Calls Tryz.prog 62 #[] w fun e w' => ∃ g, e = .returned (.slice (some ⟨g, 0, none⟩) 1 1) ∧ FnsAt Any w' (.slice (some ⟨g, 0, none⟩) 1 1) exLib ∧ Below w.heap.size w w' := by
  go_enter Tryz.func62, Tryz.ntmps62
  go_wp2
  go_ret
  exact ⟨_, rfl, ex_fns (g1 := w.heap.size + 1) (g2 := w.heap.size + 1 + 1) (by (repeat (with_reducible first | (refine blk_new ?_; (simp; done)) | (refine blk_new ?_; rfl) | refine blk_drew ?_ | refine blk_alloc ?_ | (apply blk_below; focus assumption)))) (by (repeat (with_reducible first | (refine blk_new ?_; (simp; done)) | (refine blk_new ?_; rfl) | refine blk_drew ?_ | refine blk_alloc ?_ | (apply blk_below; focus assumption)))) (by (repeat (with_reducible first | (refine blk_new ?_; (simp; done)) | (refine blk_new ?_; rfl) | refine blk_drew ?_ | refine blk_alloc ?_ | (apply blk_below; focus assumption)))), bel_alloc (bel_alloc (bel_alloc (bel_alloc (Below.refl _ _))))⟩
theorem ex_procK : procK exFn [] = blockN [nodeN 54 (tname 0) [numN 0, blockN [plusN (tname 0) (nodeN 10 ByteArray.empty [vN ⟨#[120]⟩, vN ⟨#[120]⟩]), nodeN 42 ByteArray.empty [vN outS, vN (tname 0)], nodeN 44 ⟨#[103]⟩ [vN (tname 0)]], numN 0]] := rfl
theorem ex_parsK : (paramsK exFn).length = 3 := rfl
theorem ex_limK : limE (paramsK exFn).length (procK exFn []) = 0 := by rw [ex_procK, ex_parsK]; decide +kernel
theorem ex_kname : exFn.name ++ (⟨#[49]⟩ : ByteArray) = ⟨#[102, 49]⟩ := rfl
set_option maxRecDepth 100000 in set_option maxHeartbeats 3200000 in theorem kproc_ex (pa ta ba : Option Addr) (pc tc bc : Nat) (w : World) (hp : ParsAt Any w (.slice pa exFn.params.length pc) exFn.params) (ht : ParsAt Any w (.slice ta exFn.temps.length tc) exFn.temps) (hb : BdsAt Any w (.slice ba exFn.body.length bc) exFn.body) (hr : exFn.result.size ≤ maxLen) :
    Calls Tryz.prog 30 #[.agg #[.string exFn.name, .slice pa exFn.params.length pc, .bool exFn.list, .slice ta exFn.temps.length tc, .slice ba exFn.body.length bc, .string exFn.result], .slice none 0 0] w fun e w' => ∃ xa xc ya yc, e = .returned (.tuple #[.agg #[.string ⟨#[102, 49]⟩, .slice xa 3 xc, .int .u8 57, .int .i64 0, .string ⟨#[]⟩, .slice ya 1 yc], .int .i64 0]) ∧ Below w.heap.size w w' := by
  have h := kproc_K exFn pa ta ba pc tc bc none 0 [] w hp ht hb hr (by decide +kernel) (by decide +kernel) (by decide +kernel) (by decide +kernel) (by rw [ex_procK]; decide +kernel) ⟨fun _ _ => undef, RowAt.empty _ _ _, fun j hj => by simp at hj⟩ (fun s hs => by simp at hs)
  refine h.mono fun e w' ⟨xa, xc, ya, yn, yc, he, _, hn, hbl⟩ => ?_
  obtain ⟨_, a', c', e'⟩ := (ndKids hn).form
  simp only [Value.slice.injEq] at e'
  obtain ⟨rfl, rfl, rfl⟩ := e'
  rw [if_pos ex_limK, ex_limK, ex_kname] at he
  exact ⟨xa, xc, ya, yc, he, hbl⟩
set_option maxRecDepth 100000 in set_option maxHeartbeats 3200000 in theorem refers_ex (ba : Option Addr) (bc : Nat) (kv : Value) (w : World) (hb : BdsAt Any w (.slice ba exFn.body.length bc) exFn.body) :
    Calls Tryz.prog 79 #[.slice ba exFn.body.length bc, kv] w fun e w' => e = .returned (.bool false) ∧ Below w.heap.size w w' := by
  obtain ⟨b, off, cap, aa, ac, ta, tc, ea, ec, he, hlt, c0, c1, c2, c3, c4, c5, c6, c7, hs, ht, hel, hok⟩ := hb.at (j := 0) (by decide)
  simp only [Value.slice.injEq] at he
  obtain ⟨rfl, -, rfl⟩ := he
  have d2 : w.cell? ⟨b, off + 0 * 8 + 2, none⟩ = some (.int .u8 82) := c2
  clear c2 hs ht hel hok
  generalize at' exFn.body 0 = B at *
  simp only [Nat.zero_mul, Nat.add_zero] at c0 c1 d2 c3 c4 c5 c6 c7
  clear hb
  change Calls Tryz.prog 79 #[.slice (some ⟨b, off, none⟩) 1 bc, kv] w _
  go_enter Tryz.func79, Tryz.ntmps79
  go_wp2
  go_loopw [9] (fun i wr => (i = .int .i64 0 ∨ i = .int .i64 1) ∧ Below w.heap.size w wr) (fun i _ => 1 - (intOf i).toNat)
  case atStart => exact ⟨.inl rfl, Below.refl _ _⟩
  case round =>
    obtain ⟨hi, hbl⟩ := hrel
    have HBL := Lib.hid hbl
    rcases hi with rfl | rfl
    · have x0 := (hbl.cell (p := ⟨b, off, none⟩) hlt).trans c0
      have x1 := (hbl.cell (p := ⟨b, off + 1, none⟩) hlt).trans c1
      have x2 := (hbl.cell (p := ⟨b, off + 2, none⟩) hlt).trans d2
      have x3 := (hbl.cell (p := ⟨b, off + 3, none⟩) hlt).trans c3
      have x4 := (hbl.cell (p := ⟨b, off + 4, none⟩) hlt).trans c4
      have x5 := (hbl.cell (p := ⟨b, off + 5, none⟩) hlt).trans c5
      have x6 := (hbl.cell (p := ⟨b, off + 6, none⟩) hlt).trans c6
      have x7 := (hbl.cell (p := ⟨b, off + 7, none⟩) hlt).trans c7
      clear hbl c0 c1 d2 c3 c4 c5 c6 c7
      go_wp2
      exact ⟨⟨.inr rfl, bel_alloc HBL.out⟩, by simp [intOf]⟩
    · clear hbl c0 c1 d2 c3 c4 c5 c6 c7
      go_wp2
      go_ret
      exact ⟨rfl, HBL.out⟩
abbrev exV (pa ta ba : Option Addr) (pc tc bc : Nat) : Value := .agg #[.string exFn.name, .slice pa exFn.params.length pc, .bool exFn.list, .slice ta exFn.temps.length tc, .slice ba exFn.body.length bc, .string exFn.result]
set_option maxRecDepth 100000 in set_option maxHeartbeats 3200000 in theorem garbage_ex (pa ta ba : Option Addr) (pc tc bc : Nat) (w : World) (ht : ParsAt Any w (.slice ta exFn.temps.length tc) exFn.temps) :
    Calls Tryz.prog 63 #[.agg #[.string exFn.name, .slice pa exFn.params.length pc, .bool exFn.list, .slice ta exFn.temps.length tc, .slice ba exFn.body.length bc, .string exFn.result]] w fun e w' => e = .returned (.tuple #[.int .i64 1, .int .i64 0]) ∧ Below w.heap.size w w' := by
  have hB : Below w.heap.size w (w.alloc (.cells #[.string exFn.name, .slice pa exFn.params.length pc, .bool exFn.list, .slice ta exFn.temps.length tc, .slice ba exFn.body.length bc, .string exFn.result] 31)) := bel_alloc (Below.refl _ _)
  have HB := Lib.hid hB
  have HT := Lib.hid (ht.stays (Stays.of_below hB))
  have hp : (at' exFn.temps 0).list = false := rfl
  have HPL := Lib.hid hp
  have htl : exFn.temps.length = 1 := rfl
  clear ht hB hp
  rw [htl] at HB HT ⊢
  generalize (at' exFn.temps 0) = P0 at *
  go_enter Tryz.func63, Tryz.ntmps63
  go_wp2
  generalize (w.alloc (.cells #[.string exFn.name, .slice pa exFn.params.length pc, .bool exFn.list, .slice ta 1 tc, .slice ba exFn.body.length bc, .string exFn.result] 31)) = W at *
  go_loopw [2, 3, 9] (fun a b i wr => b = .int .i64 0 ∧ ((i = .int .i64 0 ∧ a = .int .i64 0) ∨ (i = .int .i64 1 ∧ a = .int .i64 1)) ∧ Below W.heap.size W wr) (fun _ _ i _ => 1 - (intOf i).toNat)
  case atStart => exact ⟨rfl, .inl ⟨rfl, rfl⟩, Below.refl _ _⟩
  case round =>
    obtain ⟨rfl, hi, hbl⟩ := hrel
    have HBL := Lib.hid hbl
    rcases hi with ⟨rfl, rfl⟩ | ⟨rfl, rfl⟩
    · obtain ⟨b', off', cap', he, hb', _, _, p0, p1, hs⟩ := (HT.out.stays (Stays.of_below hbl)).at (j := 0) (by decide)
      simp only [Value.slice.injEq] at he
      obtain ⟨rfl, -, rfl⟩ := he
      rw [show (at' exFn.temps 0).list = false from rfl] at p1
      simp only [Nat.zero_mul, Nat.add_zero] at p0 p1
      clear hbl
      go_wp2
      exact ⟨⟨rfl, .inr ⟨rfl, rfl⟩, bel_alloc HBL.out⟩, by simp [intOf]⟩
    · clear hbl
      go_wp2
      go_ret2
      exact ⟨rfl, HB.out.trans (HBL.out.mono HB.out.size)⟩
theorem proc_ex (pa ta ba : Option Addr) (pc tc bc : Nat) (w : World) (hp : ParsAt Any w (.slice pa exFn.params.length pc) exFn.params) (ht : ParsAt Any w (.slice ta exFn.temps.length tc) exFn.temps) (hb : BdsAt Any w (.slice ba exFn.body.length bc) exFn.body) (hr : exFn.result.size ≤ maxLen) :
    Calls Tryz.prog 17 #[exV pa ta ba pc tc bc] w fun e w' => ∃ xa xc ya yn yc, e = .returned (.tuple #[.agg #[.string ⟨#[102]⟩, .slice xa 2 xc, .int .u8 57, .int .i64 0, .string ⟨#[]⟩, .slice ya yn yc], .int .i64 0]) ∧ Below w.heap.size w w' :=
  (proc_C exFn exLib pa ta ba pc tc bc w hp ht hb hr ex_good (by decide +kernel) (by decide +kernel) (by decide +kernel) (Nat.le_trans ex_size (by omega))).mono fun e w' hp2 => by
    obtain ⟨a, c, ka, kn, kc, he, hrow, hnd⟩ := hp2.2.2.2 ex_depth (by have := ex_size; rw [ex_pars]; simp; omega)
    rw [show (paramsN exFn).length = 2 from by rw [ex_pars]; rfl] at he
    exact ⟨_, _, _, _, _, he, hp2.1⟩
set_option maxRecDepth 100000 in set_option maxHeartbeats 3200000 in theorem clean_ex (pa ta ba : Option Addr) (pc tc bc : Nat) (kv : Value) (w : World) (hp : ParsAt Any w (.slice pa exFn.params.length pc) exFn.params) (ht : ParsAt Any w (.slice ta exFn.temps.length tc) exFn.temps) (hb : BdsAt Any w (.slice ba exFn.body.length bc) exFn.body) (hr : exFn.result.size ≤ maxLen) :
    Calls Tryz.prog 34 #[exV pa ta ba pc tc bc, kv] w fun e w' => ∃ xa xc ya yn yc, e = .returned (.tuple #[.agg #[.string ⟨#[102]⟩, .slice xa 2 xc, .int .u8 57, .int .i64 0, .string ⟨#[]⟩, .slice ya yn yc], .int .i64 0]) ∧ Below w.heap.size w w' := by
  obtain ⟨W, hW⟩ : ∃ W, W = (w.alloc (.cells #[.string exFn.name, .slice pa exFn.params.length pc, .bool exFn.list, .slice ta exFn.temps.length tc, .slice ba exFn.body.length bc, .string exFn.result] 31)).alloc (.cells #[.string ⟨#[]⟩, .slice none 0 0, .int .u8 0, .int .i64 0, .string ⟨#[]⟩, .slice none 0 0] 52) := ⟨_, rfl⟩
  have hA : Below w.heap.size w W := by subst hW; exact bel_alloc (bel_alloc (Below.refl _ _))
  have HA := Lib.hid hA
  have HN : Hid (W.heap[w.heap.size]? = some (.cells #[.string exFn.name, .slice pa exFn.params.length pc, .bool exFn.list, .slice ta exFn.temps.length tc, .slice ba exFn.body.length bc, .string exFn.result] 31 (0, 0))) := Lib.hid (by subst hW; exact at_old _ _ _)
  have HZ : Hid (W.heap[w.heap.size + 1]? = some (.cells #[.string ⟨#[]⟩, .slice none 0 0, .int .u8 0, .int .i64 0, .string ⟨#[]⟩, .slice none 0 0] 52 (0, 0))) := Lib.hid (by subst hW; exact at_new _ _ _)
  have HWS : Hid (W.heap.size = w.heap.size + 2) := Lib.hid (by subst hW; simp)
  have H1 : Hid (∀ w1, Below W.heap.size W w1 → Calls Tryz.prog 18 #[exV pa ta ba pc tc bc] w1 fun e w' => ∃ a c, e = .returned (.slice a 2 c) ∧ Below w1.heap.size w1 w') := Lib.hid (fun w1 h => (params_C exFn pa ta ba pc tc bc w1 ((hp.stays (Stays.of_below hA)).stays (Stays.of_below h)) (by decide +kernel)).mono fun e w' ⟨a, c, he, _, hb⟩ => ⟨a, c, by rw [he, ex_pars]; rfl, hb⟩)
  have H2 : Hid (∀ w1, Below W.heap.size W w1 → Calls Tryz.prog 79 #[.slice ba exFn.body.length bc, kv] w1 fun e w' => e = .returned (.bool false) ∧ Below w1.heap.size w1 w') := Lib.hid (fun w1 h => refers_ex ba bc kv w1 ((hb.stays (Stays.of_below hA)).stays (Stays.of_below h)))
  have H3 : Hid (∀ w1, Below W.heap.size W w1 → Calls Tryz.prog 17 #[exV pa ta ba pc tc bc] w1 fun e w' => ∃ xa xc ya yn yc, e = .returned (.tuple #[.agg #[.string ⟨#[102]⟩, .slice xa 2 xc, .int .u8 57, .int .i64 0, .string ⟨#[]⟩, .slice ya yn yc], .int .i64 0]) ∧ Below w1.heap.size w1 w') := Lib.hid (fun w1 h => proc_ex pa ta ba pc tc bc w1 ((hp.stays (Stays.of_below hA)).stays (Stays.of_below h)) ((ht.stays (Stays.of_below hA)).stays (Stays.of_below h)) ((hb.stays (Stays.of_below hA)).stays (Stays.of_below h)) hr)
  clear hp ht hb hr hA
  subst hW
  change Calls Tryz.prog 34 #[.agg #[.string exFn.name, .slice pa exFn.params.length pc, .bool exFn.list, .slice ta exFn.temps.length tc, .slice ba exFn.body.length bc, .string exFn.result], kv] w _
  go_enter Tryz.func34, Tryz.ntmps34
  go_wp2_with (first
    | (go_at_call 18; refine (H1.out _ (by (repeat (with_reducible first | exact Below.refl _ _ | refine bel_drew ?_ | refine bel_alloc ?_ | (apply bel_step; focus assumption))))).mono ?_; rintro e w2 ⟨pa2, pc2, rfl, hb2⟩; obtain ⟨x0, x1, x2, x3, x4, x5⟩ := cells6 (blk_below hb2 HN.out))
    | (go_at_call 79; refine (H2.out _ (by (repeat (with_reducible first | exact Below.refl _ _ | refine bel_drew ?_ | refine bel_alloc ?_ | (apply bel_step; focus assumption))))).mono ?_; rintro e w3 ⟨rfl, hb3⟩; obtain ⟨y0, y1, y2, y3, y4, y5⟩ := cells6 (blk_below hb3 (blk_below hb2 HN.out)))
    | (go_at_call 17; refine (H3.out _ (by (repeat (with_reducible first | exact Below.refl _ _ | refine bel_drew ?_ | refine bel_alloc ?_ | (apply bel_step; focus assumption))))).mono ?_; rintro e w4 ⟨xa, xc, ya, yn, yc, rfl, hb4⟩; have HZ4 := Lib.hid (blk_below hb4 (blk_below hb3 (blk_below hb2 HZ.out))); obtain ⟨z0, z1, z2, z3, z4, z5⟩ := cells6 HZ4.out; have zf := unfrozen HZ4.out))
  (try simp only [Exit.inBlock, Exit.then])
  refine bodyPost_ret (results_cell_row2 (P := Tryz.prog) rfl _ _ (w.heap.size + 1) _ _ _ _ _ rfl (set6 HZ4.out _ _ _ _ _ _) rfl Tryz.underlying52 rfl (by kernel_rfl)) rfl ?_
  exact ⟨_, _, _, _, _, rfl, below_sets6 (HA.out.trans (Below.mono (bel_step hb4 (bel_step hb3 hb2)) HA.out.size)) (by omega)⟩
end Go.Proofs.YtehmmokkjojggabGreatDoor
