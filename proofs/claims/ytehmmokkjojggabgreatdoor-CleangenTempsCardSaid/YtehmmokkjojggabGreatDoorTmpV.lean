/- ast.Walk's inner function: every node of the tree comes, in order. -/
import Derived.Test.YtehmmokkjojggabGreatDoorTmpT
import Derived.Test.YtehmmokkjojggabGreatDoorZq13
import Derived.RangeFuncCalls
import Derived.Shelf.RegionOpen
import Derived.WalkKit
import Derived.OwnWalkIn
import Derived.TacticsInMore
import Derived.LoopNIn
import Derived.LoopIn
import Derived.Stop.RegionWithIn
import Derived.Sort.CutIn
namespace Go.Proofs.YtehmmokkjojggabGreatDoor
set_option linter.unusedVariables false
set_option linter.unusedSimpArgs false
open Go.RowKit Go.Shelf
attribute [local go_sem] Oper.semAt_some

theorem KM.blk {n0 : Nat} {M : World → Nat → Prop} {W W' : World} (h : KM n0 M W W') {b : Nat} {o : Obj} (ho : W.heap[b]? = some o) (hm : ¬ M W b) : W'.heap[b]? = some o :=
  (h.2 b (Array.getElem?_eq_some_iff.1 ho).1 hm).1.trans ho

set_option maxRecDepth 100000 in
set_option maxHeartbeats 6400000 in
theorem visit_ok {l Y P V n0 : Nat} {J : List Nd → World → Prop} {M : World → Nat → Prop} {XS : List Nd}
    (hY : ∀ pre (x : Hand) W1, J pre W1 → pre ++ [x.2.1] <+: XS → YieldAt Fence.wide 9 Tryz.prog l (hands x) W1 fun e W' => e = .returned (.bool true) ∧ J (pre ++ [x.2.1]) W' ∧ KM n0 M W1 W') (m : Nat) :
    ∀ (n : Nd) (v : Value) (A : Nat → Prop) (W : World) (pre : List Nd) (d : Nat), sizeN n ≤ m → sizeN n ≤ 100000 → d + sizeN n ≤ 1000000 → VS l Y P V n0 A J M pre d W → NdAt A W v n → pre ++ preN n <+: XS →
      CallsIn Fence.wide 9 Tryz.prog 55 #[v, .pointer (some ⟨Y, 0, none⟩), .pointer (some ⟨P, 0, none⟩), .pointer (some ⟨V, 0, none⟩)] W fun e W' => e = .returned (.bool true) ∧ VS l Y P V n0 A J M (pre ++ preN n) d W' ∧ KM n0 (Oth P M) W W' := by
  induction m with
  | zero => intro n v A W pre d hm; have := size_pos n; omega
  | succ m ih =>
    intro n v A W pre d hm h1 h2 hvs hv hpx
    have HPX := Lib.hid hpx
    have hp1 : pre ++ [n] <+: XS := by have := pre_cut 0 hpx; rwa [List.take_zero, preL] at this
    have IH := Lib.hid ih
    have HY := Lib.hid hY
    clear ih hY
    obtain ⟨hok, hlen, ka, kc, rfl, hk⟩ := hv.open
    have HSZ : Hid (∀ j, j < n.kids.length → sizeN (at' n.kids j) ≤ m ∧ sizeN (at' n.kids j) ≤ 100000 ∧ (d + 1) + sizeN (at' n.kids j) ≤ 1000000) := Lib.hid (fun j hj => by have := size_kid n j hj; omega)
    have hln : n.kids.length ≤ 100000 := by
      have h1 := len_sizeL n.kids
      have h2 := sizeN_eq n
      omega
    have hd : d ≤ 1000000 := by omega
    obtain ⟨W1, hW1⟩ : ∃ W1, W1 = W.alloc (.cells #[.int .u8 n.kind, .int .i64 n.num, .string n.name, .slice ka n.kids.length kc] 35) := ⟨_, rfl⟩
    have hA1 : Below W.heap.size W W1 := by subst hW1; exact (Below.refl _ _).alloc (Nat.le_refl _) _
    have hbx : W1.heap[W.heap.size]? = some (.cells #[.int .u8 n.kind, .int .i64 n.num, .string n.name, .slice ka n.kids.length kc] 35 (0, 0)) := by subst hW1; exact at_new0 _ _
    obtain ⟨hvs1, hkm1, hoth⟩ := hvs.new hA1
    have hnb : ¬ Oth P M W1 W.heap.size := fun e => by have := Oth.lt hvs (hoth _ e); omega
    have hvs1' := hvs1.more (B := W.heap.size) (Array.getElem?_eq_some_iff.1 hbx).1 hnb
    have HK := Lib.hid (hv.stays (A' := fun b => A b ∨ b = W.heap.size) ⟨hA1.size, fun b hb ha => ⟨hA1.block b hb, .inl ha⟩⟩)
    have HVS := Lib.hid hvs1'
    have HBX := Lib.hid hbx
    have HNB := Lib.hid hnb
    have HKM1 := Lib.hid hkm1
    have HLE : Hid (∀ b, A b → A b ∨ b = W.heap.size) := Lib.hid (fun b h => .inl h)
    obtain ⟨pv, xs, hp, ho, hxd⟩ := hvs1'.p
    have HCP : Hid (∀ w1, Below W1.heap.size W1 w1 → Calls Tryz.prog 56 #[pv] w1 fun e w' => ∃ v', e = .returned v' ∧ Below w1.heap.size w1 w') := Lib.hid (fun w1 h => clonePath pv xs w1 (ho.ints.below h) (by omega))
    have HCN : Hid (∀ w1, Below W1.heap.size W1 w1 → Calls Tryz.prog 53 #[.agg #[.int .u8 n.kind, .int .i64 n.num, .string n.name, .slice ka n.kids.length kc]] w1 fun e w' => ∃ xa xc, e = .returned (.agg #[.int .u8 n.kind, .int .i64 n.num, .string n.name, .slice xa n.kids.length xc]) ∧ Below w1.heap.size w1 w') :=
      Lib.hid (fun w1 h => (astClone_any n _ _ w1 h1 (HK.out.stays (Stays.of_below h))).mono fun e w' ⟨xa, xc, he, _, hb⟩ => ⟨xa, xc, he, hb⟩)
    have HX : Hid (∀ w1, Below W1.heap.size W1 w1 → w1.cell? ⟨Y, 0, none⟩ = some (.func (.yield l) #[] #[]) ∧ w1.cell? ⟨P, 0, none⟩ = some pv ∧ (w1.cell? ⟨W.heap.size, 0, none⟩ = some (.int .u8 n.kind) ∧ w1.cell? ⟨W.heap.size, 1, none⟩ = some (.int .i64 n.num) ∧ w1.cell? ⟨W.heap.size, 2, none⟩ = some (.string n.name) ∧ w1.cell? ⟨W.heap.size, 3, none⟩ = some (.slice ka n.kids.length kc))) :=
      Lib.hid (fun w1 h => ⟨cell_blk (blk_below h hvs1'.y) 0 rfl, cell_blk (blk_below h hp) 0 rfl, cells4 (blk_below h hbx)⟩)
    have HRD : Hid (∀ v' xa xc w3, Below W1.heap.size W1 w3 → YieldAt Fence.wide 9 Tryz.prog l #[v', .agg #[.int .u8 n.kind, .int .i64 n.num, .string n.name, .slice xa n.kids.length xc]] w3 fun e W' => e = .returned (.bool true) ∧ VS l Y P V n0 (fun b => A b ∨ b = W.heap.size) J M (pre ++ [n]) d W' ∧ KM n0 (Oth P M) W1 W') :=
      Lib.hid (fun v' xa xc w3 h => by
        obtain ⟨hv3, hk3, _⟩ := hvs1'.new h
        exact yield_mono (HY.out pre (v', n, xa, xc) w3 hv3.j hp1) (fun e w' ⟨he, hj, hk⟩ => by
          obtain ⟨a, b⟩ := hv3.round hj hk
          exact ⟨he, a, hk3.trans b⟩))
    obtain ⟨cY, cP, c0, c1, c2, c3⟩ := HX.out W1 (Below.refl _ _)
    clear hpx hp1 hv hk hok hm h1 h2 hvs hvs1 hkm1 hoth hnb hvs1' hbx hp ho hxd hA1
    refine callsIn_of_wp Tryz.func55 rfl trivial ?_ rfl
    simp only [Tryz.ntmps55, List.size_toArray, List.length_cons, List.length_nil, Nat.reduceAdd, Nat.reduceSub, Array.replicate_succ, Array.replicate_zero, List.push_toArray, List.append_toArray, List.nil_append, List.cons_append]
    gi_upto_region 1 with fail
    rw [← hW1]
    clear hW1
    gi_cut [14] from 37 (fun s w' => s = .bool false ∧ VS l Y P V n0 (fun b => A b ∨ b = W.heap.size) J M (pre ++ [n]) d w' ∧ KM n0 (Oth P M) W1 w')
    case first =>
      gi_region_with (first
        | (refine ⟨trivial, ?_⟩; gi_at_call 56; refine (callsIn_wide.2 (HCP.out _ (by (repeat (with_reducible first | exact Below.refl _ _ | refine bel_drew ?_ | refine bel_alloc ?_ | (apply bel_step; focus assumption)))))).mono ?_; rintro e w2 ⟨v', rfl, hb2⟩; have hB2 : Below W1.heap.size W1 w2 := (by (repeat (with_reducible first | exact Below.refl _ _ | refine bel_drew ?_ | refine bel_alloc ?_ | (apply bel_step; focus assumption)))); obtain ⟨cY, cP, c0, c1, c2, c3⟩ := HX.out w2 hB2)
        | (refine ⟨trivial, ?_⟩; gi_at_call 53; refine (callsIn_wide.2 (HCN.out _ (by (repeat (with_reducible first | exact Below.refl _ _ | refine bel_drew ?_ | refine bel_alloc ?_ | (apply bel_step; focus assumption)))))).mono ?_; rintro e w3 ⟨xa, xc, rfl, hb3⟩; have hB3 : Below W1.heap.size W1 w3 := (by (repeat (with_reducible first | exact Below.refl _ _ | refine bel_drew ?_ | refine bel_alloc ?_ | (apply bel_step; focus assumption)))); obtain ⟨cY, cP, c0, c1, c2, c3⟩ := HX.out w3 hB3; obtain ⟨fn, tmps, assign, body, hy, hR⟩ := HRD.out v' xa xc w3 hB3)
        | (refine (round_any hR).mono ?_; rintro e w4 ⟨rfl, hv4, hk4⟩))
      all_goals (gi_wp2_with fail; gi_meet; exact ⟨rfl, hv4, hk4⟩)
    case rest =>
      obtain ⟨rfl, hvs2, hkm2⟩ := hcut
      clear cY cP c0 c1 c2 c3
      have HN1 : Hid (W1.heap.size ≤ W1.heap.size) := Lib.hid (Nat.le_refl _)
      obtain ⟨c0, c1, c2, c3⟩ := cells4 (hkm2.blk HBX.out HNB.out)
      have HV2 := Lib.hid hvs2
      have HK2 := Lib.hid hkm2
      clear hvs2 hkm2 HX HCN HCP HRD
      gi_wp2_with fail
      gi_loopw [18] (fun i wr => ∃ k : Nat, i = .int .i64 k ∧ k ≤ n.kids.length ∧ VS l Y P V n0 (fun b => A b ∨ b = W.heap.size) J M (pre ++ n :: preL (n.kids.take k)) d wr ∧ KM n0 (Oth P M) W1 wr) (fun i _ => n.kids.length - (intOf i).toNat)
      case atStart => exact ⟨0, rfl, Nat.zero_le _, by rw [List.take_zero, preL]; exact HV2.out, HK2.out⟩
      case round =>
        obtain ⟨k, rfl, hk, hvr, hkr⟩ := hrel
        clear c0 c1 c2 c3
        by_cases hlt : k < n.kids.length
        · obtain ⟨-, -, ka', kc', he1, hkk⟩ := (HK.out.stays (HVS.out.stays hkr)).open
          simp only [Value.agg.injEq, Array.mk.injEq, List.cons.injEq, Value.slice.injEq, true_and, and_true] at he1
          obtain ⟨rfl, rfl⟩ := he1
          obtain ⟨b, off, cap, kb, kd, he, hb, _, hAb, c0, c1, c2, c3, hnd⟩ := hkk.at hlt
          simp only [Value.slice.injEq] at he
          obtain ⟨rfl, -, rfl⟩ := he
          obtain ⟨X1, hX1⟩ : ∃ X1, X1 = wr.alloc (.cells #[.int .u8 (at' n.kids k).kind, .int .i64 (at' n.kids k).num, .string (at' n.kids k).name, .slice kb (at' n.kids k).kids.length kd] 35) := ⟨_, rfl⟩
          have hXb : Below wr.heap.size wr X1 := by subst hX1; exact bel_alloc (Below.refl _ _)
          have hkb : X1.heap[wr.heap.size]? = some (.cells #[.int .u8 (at' n.kids k).kind, .int .i64 (at' n.kids k).num, .string (at' n.kids k).name, .slice kb (at' n.kids k).kids.length kd] 35 (0, 0)) := by subst hX1; exact at_new0 _ _
          obtain ⟨hvx, hkx, hox⟩ := hvr.new hXb
          have hnk : ¬ Oth P M X1 wr.heap.size := fun e => by have := Oth.lt hvr (hox _ e); omega
          have hvx' := hvx.more (B := wr.heap.size) (Array.getElem?_eq_some_iff.1 hkb).1 hnk
          obtain ⟨pv, xs, hpr, hor, hxd⟩ := hvr.p
          have hp := blk_below hXb hpr
          have ho := hor.below hXb
          have hndx := (hnd.stays (Stays.of_below hXb)).stays (A' := fun b => (A b ∨ b = W.heap.size) ∨ b = wr.heap.size) ⟨Nat.le_refl _, fun _ _ a => ⟨rfl, .inl a⟩⟩
          have cP := cell_blk hp 0 rfl
          rw [hX1] at cP
          have HVX := Lib.hid hvx'
          have HKX := Lib.hid (hkr.trans hkx)
          have HKB := Lib.hid hkb
          have HNK := Lib.hid hnk
          have HOW := Lib.hid ho
          have HPP := Lib.hid hp
          have HXS : Hid (X1.heap.size = wr.heap.size + 1) := Lib.hid (by rw [hX1]; simp)
          have HND := Lib.hid hndx
          have HTK : Hid (pre ++ n :: preL (n.kids.take k) ++ preN (at' n.kids k) = pre ++ n :: preL (n.kids.take (k + 1))) := Lib.hid (by rw [preL_take hlt]; simp)
          have i1 : (0 : Int) ≤ (k : Int) := by omega
          have i2 : (k : Int) < (n.kids.length : Int) := by omega
          have PX : P < X1.heap.size := (Array.getElem?_eq_some_iff.1 hp).1
          have hnb2 : n0 ≤ X1.heap.size := by have := hvx'.nP; omega
          clear hkr hvr hvx hvx' hkx hox hnk hp ho hpr hor hnd hndx hkk hkb hXb hAb hb
          gi_upto_region 7 with (gi_at_builtin; rw [← hX1]; refine wpi_append1 TIntP rfl (.tmp 23) (.tmp 25) rfl rfl (by rw [HXS.out]; rfl) HOW.out (by omega) (by omega) hnb2 ?_; intro v' w1 hown hg hn; obtain ⟨a', c', rfl⟩ := hown.form; have hpush := HVX.out.push HPP.out HOW.out hg hown hn; have HPU := Lib.hid hpush; have HP1 : Hid (w1.heap[P]? = some (.cells #[pv] 65 (0, 0))) := Lib.hid ((hg.block P PX (fun e => (HVX.out.oO _ _ _ _ HPP.out e.symm).2 rfl)).trans HPP.out); have cP1 := cell_blk HP1.out 0 rfl; have fP1 := unfrozen HP1.out 0; clear hpush hown hg hn)
          obtain ⟨hvp, hkp⟩ := HPU.out
          have hxl : (xs ++ [(k : Int)]).length = d + 1 := by simp [hxd]
          rw [hxl] at hvp hkp
          have hkb2 := hkp.blk HKB.out HNK.out
          have hv2 := hvp.v
          have hnd2 := HND.out.stays (HVX.out.stays hkp)
          have HVP := Lib.hid hvp
          have HKP := Lib.hid (HKX.out.trans hkp)
          have HIH := Lib.hid (IH.out (at' n.kids k) _ _ _ (pre ++ n :: preL (n.kids.take k)) (d + 1) (HSZ.out k hlt).1 (HSZ.out k hlt).2.1 (HSZ.out k hlt).2.2 hvp hnd2 (by rw [HTK.out]; exact pre_cut _ HPX.out))
          have hkm7 := HKP.out
          generalize w1.setCell ⟨P, 0, none⟩ (.slice a' (xs ++ [(k : Int)]).length c') = W2 at *
          obtain ⟨b0, b1, b2, b3⟩ := cells4 hkb2
          have cV := cell_blk hv2 0 rfl
          clear hvp hkp hkb2 hv2 hnd2 hkm7
          gi_wp2_with (first
            | (refine ⟨trivial, ?_⟩; gi_at_call 55; refine (callsIn_wide.2 (callsIn_wide.1 HIH.out)).mono ?_; rintro e w5 ⟨rfl, hv5, hk5⟩; obtain ⟨g5, q5, xs5, hp5, ho5, hq5, hl5⟩ := hv5.form; have c5 := cell_blk hp5 0 rfl; have f5 := unfrozen hp5 0))
          obtain ⟨hv6, hk6⟩ := hv5.pop hp5 ho5 hl5
          rw [HTK.out] at hv6
          exact ⟨⟨k + 1, by go_num, by omega, hv6.less (fun b h => .inl h), (HKP.out.trans hk5).trans hk6⟩, by simp [intOf]; omega⟩
        · obtain rfl : k = n.kids.length := by omega
          have hlt' : ¬ (n.kids.length : Int) < (n.kids.length : Int) := by omega
          rw [List.take_length] at hvr
          gi_wp2_with fail
          go_ret
          rw [preN_eq]
          exact ⟨rfl, hvr.less HLE.out, HKM1.out.trans hkr⟩
end Go.Proofs.YtehmmokkjojggabGreatDoor
