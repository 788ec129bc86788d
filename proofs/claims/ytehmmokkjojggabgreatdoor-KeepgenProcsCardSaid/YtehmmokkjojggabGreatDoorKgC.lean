/- Walks: the limits of a procedure (keepgen.finish, backsteplaw41.limited). -/
import Derived.Test.YtehmmokkjojggabGreatDoorZq27
namespace Go.Proofs.YtehmmokkjojggabGreatDoor
set_option linter.unusedVariables false
set_option linter.unusedSimpArgs false
open Go.RowKit

/-- the error of a procedure with n parameters and this body -/
def limE (n : Nat) (B : Nd) : Int := if 8 < n then 5 else if 80 < depthN B then 19 else if 2000 < sizeN B then 5 else 0
abbrev prV (pn : ByteArray) (xa : Option Addr) (xl xc : Nat) (bk bn : Int) (bs : ByteArray) (ya : Option Addr) (yn yc : Nat) : Value := .agg #[.string pn, .slice xa xl xc, .int .u8 bk, .int .i64 bn, .string bs, .slice ya yn yc]
abbrev zeroP : Value := .agg #[.string ⟨#[]⟩, .slice none 0 0, .int .u8 0, .int .i64 0, .string ⟨#[]⟩, .slice none 0 0]
set_option maxRecDepth 100000 in set_option maxHeartbeats 3200000 in theorem limited_L (pn : ByteArray) (xa : Option Addr) (xl xc : Nat) (bk bn : Int) (bs : ByteArray) (ya : Option Addr) (yn yc : Nat) (B : Nd) (w : World) (hB : NdAt Any w (.agg #[.int .u8 bk, .int .i64 bn, .string bs, .slice ya yn yc]) B) (hz : sizeN B ≤ 1000000) (hx : xl ≤ 1000) :
    Calls Tryz.prog 77 #[prV pn xa xl xc bk bn bs ya yn yc] w fun e w' => e = .returned (.int .i64 (limE xl B)) ∧ Below w.heap.size w w' := by
  have hA : Below w.heap.size w (w.alloc (.cells #[.string pn, .slice xa xl xc, .int .u8 bk, .int .i64 bn, .string bs, .slice ya yn yc] 52)) := bel_alloc (Below.refl _ _)
  have HA := Lib.hid hA
  have HX := Lib.hid (at_new0 w (.cells #[.string pn, .slice xa xl xc, .int .u8 bk, .int .i64 bn, .string bs, .slice ya yn yc] 52))
  have HD : Hid (∀ w1, Below w.heap.size w w1 → Calls Tryz.prog 50 #[.agg #[.int .u8 bk, .int .i64 bn, .string bs, .slice ya yn yc]] w1 fun e w' => e = .returned (.int .i64 (depthN B)) ∧ Below w1.heap.size w1 w') := Lib.hid (fun w1 h => astDepth_any B _ Any w1 hz (hB.stays (Stays.of_below h)))
  have HS : Hid (∀ w1, Below w.heap.size w w1 → Calls Tryz.prog 51 #[.agg #[.int .u8 bk, .int .i64 bn, .string bs, .slice ya yn yc]] w1 fun e w' => e = .returned (.int .i64 (sizeN B)) ∧ Below w1.heap.size w1 w') := Lib.hid (fun w1 h => astSize_any B _ Any w1 hz (hB.stays (Stays.of_below h)))
  obtain ⟨x0, x1, x2, x3, x4, x5⟩ := cells6 HX.out
  clear hB hA
  change Calls Tryz.prog 77 #[.agg #[.string pn, .slice xa xl xc, .int .u8 bk, .int .i64 bn, .string bs, .slice ya yn yc]] w _
  go_enter Tryz.func77, Tryz.ntmps77
  by_cases q8 : 8 < xl
  · have d8 : decide ((8 : Int) < (xl : Int)) = true := by simp; omega
    have HL : Hid (limE xl B = 5) := Lib.hid (by unfold limE; rw [if_pos q8])
    clear q8
    go_wp2
    go_ret
    rw [HL.out]
    exact ⟨rfl, HA.out⟩
  · have d8 : decide ((8 : Int) < (xl : Int)) = false := by simp; omega
    go_wp2_with fail
    refine (HD.out _ HA.out).mono ?_
    rintro e w2 ⟨rfl, hb2⟩
    have hb12 := HA.out.trans (hb2.mono HA.out.size)
    obtain ⟨x0, x1, x2, x3, x4, x5⟩ := cells6 (blk_below hb2 HX.out)
    by_cases q80 : 80 < depthN B
    · have d80 : decide ((80 : Int) < (depthN B : Int)) = true := by simp; omega
      have HL : Hid (limE xl B = 19) := Lib.hid (by unfold limE; rw [if_neg q8, if_pos q80])
      have HB2 := Lib.hid hb12
      clear q8 q80 hb2 hb12
      go_wp2
      go_ret
      rw [HL.out]
      exact ⟨rfl, HB2.out⟩
    · have d80 : decide ((80 : Int) < (depthN B : Int)) = false := by simp; omega
      go_wp2_with fail
      refine (HS.out _ hb12).mono ?_
      rintro e w3 ⟨rfl, hb3⟩
      have HB3 := Lib.hid (hb12.trans (hb3.mono hb12.size))
      by_cases q20 : 2000 < sizeN B
      · have d20 : decide ((2000 : Int) < (sizeN B : Int)) = true := by simp; omega
        have HL : Hid (limE xl B = 5) := Lib.hid (by unfold limE; rw [if_neg q8, if_neg q80, if_pos q20])
        clear q8 q80 q20 hb2 hb3 hb12
        go_wp2
        go_ret
        rw [HL.out]
        exact ⟨rfl, HB3.out⟩
      · have d20 : decide ((2000 : Int) < (sizeN B : Int)) = false := by simp; omega
        have HL : Hid (limE xl B = 0) := Lib.hid (by unfold limE; rw [if_neg q8, if_neg q80, if_neg q20])
        clear q8 q80 q20 hb2 hb3 hb12
        go_wp2
        go_ret
        rw [HL.out]
        exact ⟨rfl, HB3.out⟩
set_option maxRecDepth 100000 in set_option maxHeartbeats 3200000 in theorem finish_K (pn : ByteArray) (xa : Option Addr) (xl xc : Nat) (bk bn : Int) (bs : ByteArray) (ya : Option Addr) (yn yc : Nat) (B : Nd) (w : World) (hB : NdAt Any w (.agg #[.int .u8 bk, .int .i64 bn, .string bs, .slice ya yn yc]) B) (hz : sizeN B ≤ 1000000) (hx : xl ≤ 1000) :
    Calls Tryz.prog 74 #[prV pn xa xl xc bk bn bs ya yn yc] w fun e w' => e = .returned (.tuple #[if limE xl B = 0 then prV pn xa xl xc bk bn bs ya yn yc else zeroP, .int .i64 (limE xl B)]) ∧ Below w.heap.size w w' := by
  have HD : Hid (∀ w1, Below w.heap.size w w1 → Calls Tryz.prog 50 #[.agg #[.int .u8 bk, .int .i64 bn, .string bs, .slice ya yn yc]] w1 fun e w' => e = .returned (.int .i64 (depthN B)) ∧ Below w1.heap.size w1 w') := Lib.hid (fun w1 h => astDepth_any B _ Any w1 hz (hB.stays (Stays.of_below h)))
  have HS : Hid (∀ w1, Below w.heap.size w w1 → Calls Tryz.prog 51 #[.agg #[.int .u8 bk, .int .i64 bn, .string bs, .slice ya yn yc]] w1 fun e w' => e = .returned (.int .i64 (sizeN B)) ∧ Below w1.heap.size w1 w') := Lib.hid (fun w1 h => astSize_any B _ Any w1 hz (hB.stays (Stays.of_below h)))
  obtain ⟨W, hW⟩ : ∃ W, W = (w.alloc (.cells #[.string pn, .slice xa xl xc, .int .u8 bk, .int .i64 bn, .string bs, .slice ya yn yc] 52)).alloc (.cells #[.string ⟨#[]⟩, .slice none 0 0, .int .u8 0, .int .i64 0, .string ⟨#[]⟩, .slice none 0 0] 52) := ⟨_, rfl⟩
  have hA : Below w.heap.size w W := by subst hW; exact bel_alloc (bel_alloc (Below.refl _ _))
  have HA := Lib.hid hA
  have HX : Hid (W.heap[w.heap.size]? = some (.cells #[.string pn, .slice xa xl xc, .int .u8 bk, .int .i64 bn, .string bs, .slice ya yn yc] 52 (0, 0))) := Lib.hid (by subst hW; exact at_old _ _ _)
  have HZ : Hid (W.heap[w.heap.size + 1]? = some (.cells #[.string ⟨#[]⟩, .slice none 0 0, .int .u8 0, .int .i64 0, .string ⟨#[]⟩, .slice none 0 0] 52 (0, 0))) := Lib.hid (by subst hW; exact at_new _ _ _)
  obtain ⟨x0, x1, x2, x3, x4, x5⟩ := cells6 HX.out
  obtain ⟨R, hR⟩ : ∃ R, R = Value.tuple #[if limE xl B = 0 then prV pn xa xl xc bk bn bs ya yn yc else zeroP, .int .i64 (limE xl B)] := ⟨_, rfl⟩
  rw [← hR]
  have HR := Lib.hid hR
  clear hB hA hR
  change Calls Tryz.prog 74 #[.agg #[.string pn, .slice xa xl xc, .int .u8 bk, .int .i64 bn, .string bs, .slice ya yn yc]] w _
  subst hW
  go_enter Tryz.func74, Tryz.ntmps74
  by_cases q8 : 8 < xl
  · have d8 : decide ((8 : Int) < (xl : Int)) = true := by simp; omega
    have HL : Hid (R = .tuple #[zeroP, .int .i64 5]) := Lib.hid (by rw [HR.out, show limE xl B = 5 by unfold limE; rw [if_pos q8]]; rfl)
    clear q8
    go_wp2
    (try simp only [Exit.inBlock, Exit.then])
    refine bodyPost_ret (results_cell_row2 (P := Tryz.prog) rfl _ _ (w.heap.size + 1) _ _ _ _ _ rfl HZ.out rfl Tryz.underlying52 rfl (by kernel_rfl)) rfl ?_
    rw [HL.out]
    exact ⟨rfl, HA.out⟩
  · have d8 : decide ((8 : Int) < (xl : Int)) = false := by simp; omega
    go_wp2_with fail
    refine (HD.out _ HA.out).mono ?_
    rintro e w2 ⟨rfl, hb2⟩
    have hb12 := HA.out.trans (hb2.mono HA.out.size)
    have HZ2 := Lib.hid (blk_below hb2 HZ.out)
    obtain ⟨x0, x1, x2, x3, x4, x5⟩ := cells6 (blk_below hb2 HX.out)
    obtain ⟨z0, z1, z2, z3, z4, z5⟩ := cells6 HZ2.out
    have zf := unfrozen HZ2.out
    by_cases q80 : 80 < depthN B
    · have d80 : decide ((80 : Int) < (depthN B : Int)) = true := by simp; omega
      have HL : Hid (R = .tuple #[zeroP, .int .i64 19]) := Lib.hid (by rw [HR.out, show limE xl B = 19 by unfold limE; rw [if_neg q8, if_pos q80]]; rfl)
      have HB2 := Lib.hid hb12
      clear q8 q80 hb2 hb12
      go_wp2
      (try simp only [Exit.inBlock, Exit.then])
      refine bodyPost_ret (results_cell_row2 (P := Tryz.prog) rfl _ _ (w.heap.size + 1) _ _ _ _ _ rfl (set6 HZ2.out _ _ _ _ _ _) rfl Tryz.underlying52 rfl (by kernel_rfl)) rfl ?_
      rw [HL.out]
      exact ⟨rfl, below_sets6 HB2.out (by omega)⟩
    · have d80 : decide ((80 : Int) < (depthN B : Int)) = false := by simp; omega
      go_wp2_with fail
      refine (HS.out _ hb12).mono ?_
      rintro e w3 ⟨rfl, hb3⟩
      have HB3 := Lib.hid (hb12.trans (hb3.mono hb12.size))
      have HZ3 := Lib.hid (blk_below hb3 HZ2.out)
      obtain ⟨x0, x1, x2, x3, x4, x5⟩ := cells6 (blk_below hb3 (blk_below hb2 HX.out))
      clear z0 z1 z2 z3 z4 z5 zf
      obtain ⟨z0, z1, z2, z3, z4, z5⟩ := cells6 HZ3.out
      have zf := unfrozen HZ3.out
      by_cases q20 : 2000 < sizeN B
      · have d20 : decide ((2000 : Int) < (sizeN B : Int)) = true := by simp; omega
        have HL : Hid (R = .tuple #[zeroP, .int .i64 5]) := Lib.hid (by rw [HR.out, show limE xl B = 5 by unfold limE; rw [if_neg q8, if_neg q80, if_pos q20]]; rfl)
        clear q8 q80 q20 hb2 hb3 hb12
        go_wp2
        (try simp only [Exit.inBlock, Exit.then])
        refine bodyPost_ret (results_cell_row2 (P := Tryz.prog) rfl _ _ (w.heap.size + 1) _ _ _ _ _ rfl (set6 HZ3.out _ _ _ _ _ _) rfl Tryz.underlying52 rfl (by kernel_rfl)) rfl ?_
        rw [HL.out]
        exact ⟨rfl, below_sets6 HB3.out (by omega)⟩
      · have d20 : decide ((2000 : Int) < (sizeN B : Int)) = false := by simp; omega
        have HL : Hid (R = .tuple #[prV pn xa xl xc bk bn bs ya yn yc, .int .i64 0]) := Lib.hid (by rw [HR.out, show limE xl B = 0 by unfold limE; rw [if_neg q8, if_neg q80, if_neg q20]]; rfl)
        clear q8 q80 q20 hb2 hb3 hb12
        go_wp2
        (try simp only [Exit.inBlock, Exit.then])
        refine bodyPost_ret (results_cell_row2 (P := Tryz.prog) rfl _ _ (w.heap.size + 1) _ _ _ _ _ rfl (set6 HZ3.out _ _ _ _ _ _) rfl Tryz.underlying52 rfl (by kernel_rfl)) rfl ?_
        rw [HL.out]
        exact ⟨rfl, below_sets6 HB3.out (by omega)⟩
end Go.Proofs.YtehmmokkjojggabGreatDoor
