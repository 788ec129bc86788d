/- Walks of package backsteplaw41: awake. -/
import Derived.Test.YtehmmokkjojggabGreatDoorKgP
namespace Go.Proofs.YtehmmokkjojggabGreatDoor
set_option linter.unusedVariables false
set_option linter.unusedSimpArgs false
open Go.RowKit

theorem ex_name : exFn.name = (⟨#[102]⟩ : ByteArray) := rfl
theorem name_ex (w : World) : Calls Tryz.prog 64 #[.string ⟨#[102]⟩] w fun e w' => e = .returned (.string ⟨#[102, 49]⟩) ∧ w = w' := name_K ⟨#[102]⟩ w (by decide)
set_option maxRecDepth 100000 in
set_option maxHeartbeats 6400000 in
theorem awake41_any (w : World) (ht : Tab w) : Calls Tryz.prog 26 #[] w fun e w' => e = .returned (.bool true) ∧ Below w.heap.size w w' := by
  have HSQ := Lib.hid (square_T w)
  have HT := Lib.hid ht
  clear ht
  go_enter Tryz.func26, Tryz.ntmps26
  go_wp2_with fail
  refine HSQ.out.mono ?_
  rintro e w1 ⟨g, rfl, hf, hb1⟩
  have HNO := Lib.hid (normalizeL_any _ exLib Any _ hf (fun j hj => by
    obtain rfl : j = 0 := by simpa [exLib] using hj
    show sizeN exBody ≤ 20000
    decide +kernel) (HT.out.below hb1))
  clear hf HSQ HT
  go_wp2_with fail
  refine HNO.out.mono ?_
  intro e w2 hp1
  obtain ⟨v, rfl, hv1⟩ := hp1.2.1 ex_valid
  have hb2 := hp1.2.2
  rw [ex_norm] at hv1
  obtain ⟨b, off, cap, pa, pc, ta, tc, ba, bc, rfl, hb, hcap, m0, m1, m2, m3, m4, m5, hpp, htt, hbb, hs0, hs5⟩ := afn_at hv1 (j := 0) (by simp)
  simp only [show at' [exFn] 0 = exFn from rfl, Nat.zero_mul, Nat.add_zero, List.length_singleton] at *
  have HC1 : Hid (∀ w1, Below w2.heap.size w2 w1 → Calls Tryz.prog 30 #[exV pa ta ba pc tc bc, .slice none 0 0] w1 fun e w' => ∃ xa xc ya yc, e = .returned (.tuple #[.agg #[.string ⟨#[102, 49]⟩, .slice xa 3 xc, .int .u8 57, .int .i64 0, .string ⟨#[]⟩, .slice ya 1 yc], .int .i64 0]) ∧ Below w1.heap.size w1 w') := Lib.hid (fun w1 h => kproc_ex pa ta ba pc tc bc w1 (hpp.stays (Stays.of_below h)) (htt.stays (Stays.of_below h)) (hbb.stays (Stays.of_below h)) hs5)
  have HC2 : Hid (∀ w1 kv, Below w2.heap.size w2 w1 → Calls Tryz.prog 34 #[exV pa ta ba pc tc bc, kv] w1 fun e w' => ∃ xa xc ya yn yc, e = .returned (.tuple #[.agg #[.string ⟨#[102]⟩, .slice xa 2 xc, .int .u8 57, .int .i64 0, .string ⟨#[]⟩, .slice ya yn yc], .int .i64 0]) ∧ Below w1.heap.size w1 w') := Lib.hid (fun w1 kv h => clean_ex pa ta ba pc tc bc kv w1 (hpp.stays (Stays.of_below h)) (htt.stays (Stays.of_below h)) (hbb.stays (Stays.of_below h)) hs5)
  have HC3 : Hid (∀ w1, Below w2.heap.size w2 w1 → Calls Tryz.prog 63 #[exV pa ta ba pc tc bc] w1 fun e w' => e = .returned (.tuple #[.int .i64 1, .int .i64 0]) ∧ Below w1.heap.size w1 w') := Lib.hid (fun w1 h => garbage_ex pa ta ba pc tc bc w1 (htt.stays (Stays.of_below h)))
  have HMM : Hid (∀ w1, Below w2.heap.size w2 w1 → w1.cell? ⟨b, off, none⟩ = some (.string exFn.name) ∧ w1.cell? ⟨b, off + 1, none⟩ = some (.slice pa exFn.params.length pc) ∧ w1.cell? ⟨b, off + 2, none⟩ = some (.bool exFn.list) ∧ w1.cell? ⟨b, off + 3, none⟩ = some (.slice ta exFn.temps.length tc) ∧ w1.cell? ⟨b, off + 4, none⟩ = some (.slice ba exFn.body.length bc) ∧ w1.cell? ⟨b, off + 5, none⟩ = some (.string exFn.result)) := Lib.hid (fun w1 h => ⟨(h.cell hb).trans m0, (h.cell hb).trans m1, (h.cell hb).trans m2, (h.cell hb).trans m3, (h.cell hb).trans m4, (h.cell hb).trans m5⟩)
  have HBB : Hid (Below w.heap.size w w2) := Lib.hid (hb1.trans (hb2.mono hb1.size))
  have HCP := Lib.hid hcap
  clear hp1 hv1 hpp htt hbb hs0 hs5 HNO hb1 hb2
  unfold exV at HC1 HC2 HC3
  go_wp2_with (first
    | (go_at_call 30; refine (HC1.out _ (by (repeat (with_reducible first | exact Below.refl _ _ | refine bel_drew ?_ | refine bel_alloc ?_ | (apply bel_step; focus assumption))))).mono ?_; rintro e w3 ⟨xa, xc, ya, yc, rfl, hb3⟩; obtain ⟨n0, n1, n2, n3, n4, n5⟩ := HMM.out (w3.alloc (.cells #[.string ⟨#[102, 49]⟩, .slice xa 3 xc, .int .u8 57, .int .i64 0, .string ⟨#[]⟩, .slice ya 1 yc] 52)) (by (repeat (with_reducible first | exact Below.refl _ _ | refine bel_drew ?_ | refine bel_alloc ?_ | (apply bel_step; focus assumption)))))
    | (go_at_call 34; refine (HC2.out _ _ (by (repeat (with_reducible first | exact Below.refl _ _ | refine bel_drew ?_ | refine bel_alloc ?_ | (apply bel_step; focus assumption))))).mono ?_; rintro e w4 ⟨xb, xd, yb, yn, yd, rfl, hb4⟩; obtain ⟨s0, s1, s2, s3, s4, s5⟩ := HMM.out (w4.alloc (.cells #[.string ⟨#[102]⟩, .slice xb 2 xd, .int .u8 57, .int .i64 0, .string ⟨#[]⟩, .slice yb yn yd] 52)) (by (repeat (with_reducible first | exact Below.refl _ _ | refine bel_drew ?_ | refine bel_alloc ?_ | (apply bel_step; focus assumption)))))
    | (go_at_call 63; refine (HC3.out _ (by (repeat (with_reducible first | exact Below.refl _ _ | refine bel_drew ?_ | refine bel_alloc ?_ | (apply bel_step; focus assumption))))).mono ?_; rintro e w5 ⟨rfl, hb5⟩; obtain ⟨x0, x1, x2, x3, x4, x5⟩ := cells6 (w := w5) (b := w3.heap.size) (e := 52) (v0 := .string ⟨#[102, 49]⟩) (v1 := .slice xa 3 xc) (v2 := .int .u8 57) (v3 := .int .i64 0) (v4 := .string ⟨#[]⟩) (v5 := .slice ya 1 yc) (by (repeat (with_reducible first | (refine blk_new ?_; (simp; done)) | (refine blk_new ?_; rfl) | refine blk_drew ?_ | refine blk_alloc ?_ | (apply blk_below; focus assumption)))); obtain ⟨z0, z1, z2, z3, z4, z5⟩ := cells6 (w := w5) (b := w4.heap.size) (e := 52) (v0 := .string ⟨#[102]⟩) (v1 := .slice xb 2 xd) (v2 := .int .u8 57) (v3 := .int .i64 0) (v4 := .string ⟨#[]⟩) (v5 := .slice yb yn yd) (by (repeat (with_reducible first | (refine blk_new ?_; (simp; done)) | (refine blk_new ?_; rfl) | refine blk_drew ?_ | refine blk_alloc ?_ | (apply blk_below; focus assumption)))))
    | (go_at_call 64; refine (name_ex _).mono ?_; rintro e w6 ⟨rfl, rfl⟩))
  go_ret
  exact ⟨rfl, HBB.out.trans (Below.mono (by (repeat (with_reducible first | exact Below.refl _ _ | refine bel_drew ?_ | refine bel_alloc ?_ | (apply bel_step; focus assumption)))) HBB.out.size)⟩
end Go.Proofs.YtehmmokkjojggabGreatDoor
