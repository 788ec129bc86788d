/- Contracts and plain lemmas (RefI, RefJ): no statement of the seat is proved here. -/
import Derived.Test.YtehmmokkjojggabGreatDoorZq20
import Derived.Test.YtehmmokkjojggabGreatDoorZq21
import Derived.Test.YtehmmokkjojggabGreatDoorZq22
import Derived.Test.YtehmmokkjojggabGreatDoorZq23
import Derived.Test.YtehmmokkjojggabGreatDoorZq18
set_option linter.unusedSimpArgs false
set_option linter.unusedVariables false
set_option linter.unusedSectionVars false
/- Walks of package backstepref40: Block. -/
namespace Go.Proofs.YtehmmokkjojggabGreatDoor
set_option linter.unusedVariables false
open Go.RowKit

/-- the loop of Block: the statements so far -/
structure BlkSt (w : World) (l : List Nd) (a : Option Addr) (n c : Nat) (wr : World) : Prop where
  zero : wr.heap[w.heap.size]? = some (.cells #[.int .u8 0, .int .i64 0, .string ⟨#[]⟩, .slice none 0 0] 35)
  m : wr.heap[w.heap.size + 1]? = some (.cells #[.int .u8 57, .int .i64 0, .string ⟨#[]⟩, .slice a n c] 35 (0, 0))
  row : RowsOwn NdE 35 (fun b => w.heap.size + 2 ≤ b) (w.heap.size + 2) wr (.slice a n c) l
  len : n = l.length
  below : Below w.heap.size w wr
theorem blkT_start (w : World) : BlkSt w [] none 0 0 ((w.alloc (.cells #[.int .u8 0, .int .i64 0, .string ⟨#[]⟩, .slice none 0 0] 35)).alloc (.cells #[.int .u8 57, .int .i64 0, .string ⟨#[]⟩, .slice none 0 0] 35)) :=
  ⟨at_old w _ _, at_new w _ _, RowsOwn.nil _ _ _ _ _, rfl, ((Below.refl _ _).alloc (Nat.le_refl _) _).alloc (by simp) _⟩
/-- behind the append: what was there -/
theorem blkT_after {w wr w3 w4 : World} {l : List Nd} {a : Option Addr} {n c : Nat} (h : BlkSt w l a n c wr) (hb : Below wr.heap.size wr w3) (hg : w3.grownBy w4 (Value.slice a n c).ownBlock) :
    w4.heap[w.heap.size + 1]? = some (.cells #[.int .u8 57, .int .i64 0, .string ⟨#[]⟩, .slice a n c] 35 (0, 0)) ∧ w4.heap[w.heap.size]? = some (.cells #[.int .u8 0, .int .i64 0, .string ⟨#[]⟩, .slice none 0 0] 35) ∧ Below w.heap.size w w4 := by
  have hml : w.heap.size + 1 < wr.heap.size := by have h := h.m; rw [Array.getElem?_eq_some_iff] at h; exact h.1
  have hs := hb.size
  have hB : Below w.heap.size w w3 := h.below.trans (hb.mono h.below.size)
  exact ⟨(hg.block _ (by omega) (fun e => by have := (h.row.lt e.symm).1; omega)).trans (blk_below hb h.m), (hg.block w.heap.size (by omega) (fun e => by have := (h.row.lt e.symm).1; omega)).trans (blk_below hb h.zero), hB.grown hg hB.size (fun j e => by have := (h.row.lt e).1; omega)⟩
theorem blkT_step {w wr w4 : World} {l m : List Nd} {a a' : Option Addr} {n c c' : Nat} (h : BlkSt w l a n c wr) (hm : w4.heap[w.heap.size + 1]? = some (.cells #[.int .u8 57, .int .i64 0, .string ⟨#[]⟩, .slice a n c] 35 (0, 0)) ∧ w4.heap[w.heap.size]? = some (.cells #[.int .u8 0, .int .i64 0, .string ⟨#[]⟩, .slice none 0 0] 35) ∧ Below w.heap.size w w4)
    (h4 : RowsOwn NdE 35 (fun b => w.heap.size + 2 ≤ b) (w.heap.size + 2) w4 (.slice a' (l.length + m.length) c') (l ++ m)) :
    BlkSt w (l ++ m) a' (l.length + m.length) c' (w4.setCell ⟨w.heap.size + 1, 3, none⟩ (.slice a' (l.length + m.length) c')) := by
  obtain ⟨m1, m2, m3⟩ := hm
  have hK := keeps_set w4 (w.heap.size + 1) 3 (.slice a' (l.length + m.length) c')
  exact ⟨blk_set m2 (by omega), set1_3 m1 _, h4.keeps hK (fun j e e2 => by have := (h4.lt e).1; omega) (fun j _ d e => by omega), by simp, m3.setCell (by show w.heap.size ≤ w.heap.size + 1; omega) _⟩

theorem blkT_rows {w wr w3 : World} {l m : List Nd} {a ka : Option Addr} {n c kn kc : Nat} (h : BlkSt w l a n c wr) (hb : Below wr.heap.size wr w3) (hk : KidsAt (Up wr.heap.size) w3 (.slice ka kn kc) m) :
    RowsOwn NdE 35 (fun b => w.heap.size + 2 ≤ b) (w.heap.size + 2) w3 (.slice a n c) l ∧ RowsAt NdE (Up wr.heap.size) w3 (.slice ka kn kc) m ∧ ∀ b, b < w3.heap.size → Up wr.heap.size b → w.heap.size + 2 ≤ b ∧ (Value.slice a n c).ownBlock ≠ some b := by
  have hml : w.heap.size + 1 < wr.heap.size := by have h := h.m; rw [Array.getElem?_eq_some_iff] at h; exact h.1
  refine ⟨h.row.below hb, kids_rows.1 hk, fun b _ hu => ⟨?_, fun e => ?_⟩⟩
  · have : wr.heap.size ≤ b := hu
    omega
  · have : wr.heap.size ≤ b := hu
    have := (h.row.lt e).2
    omega

set_option maxRecDepth 100000 in
set_option maxHeartbeats 3200000 in
theorem block_walk (cf : CallF) (l : List Bd) (bv : Value) (tv : Option Addr) (tk tc : Nat) (w : World) (hsz : l.length ≤ 100000) (hv : BdsAt Any w bv l)
    (HB : Hid (∀ k, k < l.length → ∀ (av ha ea : Option Addr) (ac hc ec : Nat) (w1 : World), Below w.heap.size w w1 → StrsAt Any w1 (.slice av (at' l k).args.length ac) (at' l k).args → BdsAt Any w1 (.slice ha (at' l k).thn.length hc) (at' l k).thn → BdsAt Any w1 (.slice ea (at' l k).els.length ec) (at' l k).els → (at' l k).Ok1 →
      Calls Tryz.prog 39 #[.agg #[.string (at' l k).to, .bool (at' l k).list, .int .u8 (at' l k).op, .int .i64 (at' l k).num, .string (at' l k).name, .slice av (at' l k).args.length ac, .slice ha (at' l k).thn.length hc, .slice ea (at' l k).els.length ec], .slice tv tk tc] w1 (StmtsPost (bindN cf (at' l k)) w1))) :
    Calls Tryz.prog 14 #[bv, .slice tv tk tc] w (BlockPost (bindsN cf l) w) := by
  obtain ⟨hll, la, lc, rfl⟩ := hv.form
  have HV := Lib.hid hv
  have HST := Lib.hid (blkT_start w)
  clear hv
  go_enter Tryz.func14, Tryz.ntmps14
  go_wp2
  go_loopw [6] (fun i wr => ∃ (k : Nat) (a : Option Addr) (n c : Nat), i = .int .i64 k ∧ k ≤ l.length ∧ BlkSt w (bindsN cf (l.take k)) a n c wr) (fun i _ => l.length - (intOf i).toNat)
  case atStart => exact ⟨0, none, 0, 0, rfl, Nat.zero_le _, by rw [List.take_zero, bindsN]; exact HST.out⟩
  case round =>
    obtain ⟨k, a, n, c, rfl, hk, hst⟩ := hrel
    have HS := Lib.hid hst
    have hbl := hst.below
    obtain ⟨m0, m1, m2, m3⟩ := cells4 hst.m
    have mf := unfrozen hst.m
    have hml : w.heap.size + 1 < wr.heap.size := by have h := hst.m; rw [Array.getElem?_eq_some_iff] at h; exact h.1
    have hbn : (bindsN cf (l.take k)).length ≤ 2 * k := by
      have := bindsN_len cf (l.take k)
      rw [List.length_take] at this
      omega
    obtain rfl := hst.len
    clear hst
    by_cases hlt : k < l.length
    · obtain ⟨b, off, cap, aa, ac, ta, tc', ea, ec, he, hb, c0, c1, c2, c3, c4, c5, c6, c7, hs, ht, hel, hok⟩ := HV.out.at hlt
      simp only [Value.slice.injEq] at he
      obtain ⟨rfl, -, rfl⟩ := he
      have hst : ∀ w1, Below wr.heap.size wr w1 → Stays Any Any w w1 := fun w1 hw => Stays.of_below (hbl.trans (hw.mono hbl.size))
      have HBC : Hid (∀ w1, Below wr.heap.size wr w1 → Calls Tryz.prog 39 #[.agg #[.string (at' l k).to, .bool (at' l k).list, .int .u8 (at' l k).op, .int .i64 (at' l k).num, .string (at' l k).name, .slice aa (at' l k).args.length ac, .slice ta (at' l k).thn.length tc', .slice ea (at' l k).els.length ec], .slice tv tk tc] w1 (StmtsPost (bindN cf (at' l k)) w1)) := Lib.hid (fun w1 hw => HB.out k hlt aa ta ea ac tc' ec w1 (hbl.trans (hw.mono hbl.size)) (hs.stays (hst w1 hw)) (ht.stays (hst w1 hw)) (hel.stays (hst w1 hw)) hok)
      have HTK := Lib.hid (bindsN_take cf hlt)
      have HC : Hid (∀ w1, Below wr.heap.size wr w1 → w1.cell? ⟨w.heap.size + 1, 3, none⟩ = some (.slice a (bindsN cf (l.take k)).length c) ∧ w1.cell? ⟨b, off + k * 8, none⟩ = some (.string (at' l k).to) ∧ w1.cell? ⟨b, off + k * 8 + 1, none⟩ = some (.bool (at' l k).list) ∧ w1.cell? ⟨b, off + k * 8 + 2, none⟩ = some (.int .u8 (at' l k).op) ∧ w1.cell? ⟨b, off + k * 8 + 3, none⟩ = some (.int .i64 (at' l k).num) ∧ w1.cell? ⟨b, off + k * 8 + 4, none⟩ = some (.string (at' l k).name) ∧ w1.cell? ⟨b, off + k * 8 + 5, none⟩ = some (.slice aa (at' l k).args.length ac) ∧ w1.cell? ⟨b, off + k * 8 + 6, none⟩ = some (.slice ta (at' l k).thn.length tc') ∧ w1.cell? ⟨b, off + k * 8 + 7, none⟩ = some (.slice ea (at' l k).els.length ec)) := Lib.hid (fun w1 hw => by
        have hW := hbl.trans (hw.mono hbl.size)
        exact ⟨(cells4 (blk_below hw HS.out.m)).2.2.2, (hW.cell hb).trans c0, (hW.cell hb).trans c1, (hW.cell hb).trans c2, (hW.cell hb).trans c3, (hW.cell hb).trans c4, (hW.cell hb).trans c5, (hW.cell hb).trans c6, (hW.cell hb).trans c7⟩)
      have i0 : (0 : Int) ≤ (k : Int) := by omega
      have i1 : (k : Int) < (l.length : Int) := by omega
      have hkl := bindN_len cf (at' l k)
      clear hs ht hel hok c0 c1 c2 c3 c4 c5 c6 c7 hst
      obtain ⟨t0, t1, t2, t3, t4, t5, t6, t7, t8⟩ := HC.out wr (Below.refl _ _)
      go_wp2
      go_region_law (first
        | (go_simp; go_at_call 39; refine (HBC.out _ (by (repeat (with_reducible first | exact Below.refl _ _ | refine bel_drew ?_ | refine bel_alloc ?_ | (apply bel_step; focus assumption))))).mono ?_; rintro e w3 ⟨ka, kn, kc, rfl, hk3, hb3⟩; have hw3 : Below wr.heap.size wr w3 := (by (repeat (with_reducible first | exact Below.refl _ _ | refine bel_drew ?_ | refine bel_alloc ?_ | (apply bel_step; focus assumption)))); have HR := Lib.hid (blkT_rows HS.out hw3 hk3); clear hk3; obtain ⟨q0, q1, q2, q3, q4, q5, q6, q7, q8⟩ := HC.out w3 hw3)
        | (refine step_rows TNd rfl (by decide) (by rfl) (.tmp 15) (.tmp 21) (by rfl) (by rfl) (by rfl) HR.out.1 HR.out.2.1 HR.out.2.2 (by unfold maxLen; omega) (by omega) (by have := hw3.size; omega) ?_; intro a' c' w4 h4 hg4 hn4; have H4 := Lib.hid h4; have hm4 := blkT_after HS.out hw3 hg4; obtain ⟨p0, p1, p2, p3⟩ := cells4 hm4.1; have pf := unfrozen hm4.1; have HM4 := Lib.hid hm4; clear h4 hg4 hn4 hm4)
        | fail)
      all_goals
        go_wp2
        exact ⟨⟨k + 1, a', _, c', by go_num, by omega, by rw [HTK.out]; exact blkT_step HS.out HM4.out H4.out⟩, by simp [intOf]; omega⟩
    · obtain rfl : k = l.length := by omega
      have hlt' : ¬ (l.length : Int) < (l.length : Int) := by omega
      rw [List.take_length] at HS m3 hbn
      obtain ⟨z0, z1, z2, z3⟩ := cells4 HS.out.zero
      have zf := unfrozen HS.out.zero
      go_wp2
      (try simp only [Exit.inBlock, Exit.then])
      refine bodyPost_ret (results_cell_row (P := Tryz.prog) rfl _ _ w.heap.size _ _ _ _ rfl (set4 HS.out.zero _ _ _ _) Tryz.underlying35 rfl (by kernel_rfl)) rfl ?_
      have hrow := HS.out.row
      have hkk : KidsAt (fun b => w.heap.size + 2 ≤ b) wr (.slice a (bindsN cf l).length c) (bindsN cf l) := kids_rows.2 (hrow.shut (A := fun b => w.heap.size + 2 ≤ b) (fun j d => d) (fun j e => (hrow.lt e).1) (by unfold maxLen; omega))
      have hK4 := (((keeps_set wr w.heap.size 0 (.int .u8 57)).same (keeps_set _ w.heap.size 1 (.int .i64 0))).same (keeps_set _ w.heap.size 2 (.string ⟨#[]⟩))).same (keeps_set _ w.heap.size 3 (.slice a (bindsN cf l).length c))
      refine ⟨_, _, _, rfl, nd_node (k := 57) (hkk.stays ⟨hK4.size, fun b hb h => ⟨hK4.block b hb (fun e => ?_), ?_⟩⟩) (by omega) (Nat.zero_le _), bel_sets4 hbl (Nat.le_refl _)⟩
      · have : w.heap.size + 2 ≤ b := h
        omega
      · have : w.heap.size + 2 ≤ b := h
        unfold Up; omega
end Go.Proofs.YtehmmokkjojggabGreatDoor
/- backstepref40.one and Block as a whole. -/
namespace Go.Proofs.YtehmmokkjojggabGreatDoor
set_option linter.unusedVariables false
open Go.RowKit

/-- what is asked of targets -/
def TgOk (ts : List Tg) : Prop := ∀ nm, nm.size ≤ maxLen → (tgF ts nm).extra.length ≤ 1000 ∧ (tgF ts nm).proc.size ≤ maxLen
/-- Block, up to a size -/
def RBlockOk (lib : List Fn) (ts : List Tg) (m : Nat) : Prop := ∀ (l : List Bd) (bv : Value) (tv : Option Addr) (tc : Nat) (w : World), sizeBs l ≤ m → GoodBs lib l → BdsAt Any w bv l → RowsAt TgE Any w (.slice tv ts.length tc) ts → Calls Tryz.prog 14 #[bv, .slice tv ts.length tc] w (BlockPost (bindsN (refF ts) l) w)

theorem one_any (lib : List Fn) (ts : List Tg) (htg : TgOk ts) (m : Nat) (hm : m ≤ 90000) (ih : RBlockOk lib ts m) (b : Bd) (av ha ea tv : Option Addr) (ac hc ec tc : Nat) (w : World) (hsz : sizeB b ≤ m + 1) (hg : GoodB lib b) (hok : b.Ok1) (hs : StrsAt Any w (.slice av b.args.length ac) b.args) (ht : BdsAt Any w (.slice ha b.thn.length hc) b.thn) (he : BdsAt Any w (.slice ea b.els.length ec) b.els) (hts : RowsAt TgE Any w (.slice tv ts.length tc) ts) :
    Calls Tryz.prog 39 #[.agg #[.string b.to, .bool b.list, .int .u8 b.op, .int .i64 b.num, .string b.name, .slice av b.args.length ac, .slice ha b.thn.length hc, .slice ea b.els.length ec], .slice tv ts.length tc] w (StmtsPost (bindN (refF ts) b) w) := by
  obtain ⟨tn, l, op, num, nm, args, thn, els⟩ := b
  obtain ⟨o1, o2, o3, o4⟩ := hok
  simp only [Bd.to, Bd.list, Bd.op, Bd.num, Bd.name, Bd.args, Bd.thn, Bd.els] at *
  rw [sizeB] at hsz
  rw [GoodB] at hg
  obtain ⟨_, _, hop, hthn, hels⟩ := hg
  rcases hop with ⟨rfl, h⟩ | ⟨rfl, h⟩ | ⟨rfl, h, h2⟩ | ⟨rfl, h⟩ | ⟨rfl, h, h2⟩ | rfl | ⟨rfl, h⟩ | ⟨h, h2⟩
  · exact one_num tn nm l num av ha ea tv ac _ hc _ ec _ tc args (refF ts) thn els w hs o1 o3 (Nat.zero_le _)
  · cases l
    · exact one_var tn nm num av ha ea tv ac _ hc _ ec _ tc args (refF ts) thn els w hs o1 o3 (by omega)
    · exact one_varl tn nm num av ha ea tv ac _ hc _ ec _ tc args (refF ts) thn els w hs o1 o3 (by omega)
  · exact one_op tn nm l num av ha ea tv ac _ hc _ ec _ tc args (refF ts) thn els w hs o1 o3 (by omega)
  · refine one_if tn nm l num av ha ea tv ac _ hc _ ec _ tc args (refF ts) thn els w hs o1 o3 (by omega) (Lib.hid fun w1 hb => ?_) (Lib.hid fun w1 hb => ?_)
    · exact ih thn _ tv tc w1 (by omega) hthn (ht.stays (Stays.of_below hb)) (hts.stays (Stays.of_below hb))
    · exact ih els _ tv tc w1 (by omega) hels (he.stays (Stays.of_below hb)) (hts.stays (Stays.of_below hb))
  · exact one_call tn nm l num av ha ea tv ac _ hc _ ec tc args ts thn els w hs hts o1 o4 o3 (by omega) (htg nm o4).1 (htg nm o4).2
  · exact one_nil tn nm l num av ha ea tv ac _ hc _ ec _ tc args (refF ts) thn els w hs o1 o3 (Nat.zero_le _)
  · exact one_cons tn nm l num av ha ea tv ac _ hc _ ec _ tc args (refF ts) thn els w hs o1 o3 (by omega)
  · rcases h with rfl | rfl | rfl
    · exact one_head tn nm l num av ha ea tv ac _ hc _ ec _ tc args (refF ts) thn els w hs o1 o3 (by omega)
    · exact one_tail tn nm l num av ha ea tv ac _ hc _ ec _ tc args (refF ts) thn els w hs o1 o3 (by omega)
    · exact one_null tn nm l num av ha ea tv ac _ hc _ ec _ tc args (refF ts) thn els w hs o1 o3 (by omega)

theorem rblock_ok (lib : List Fn) (ts : List Tg) (htg : TgOk ts) : ∀ m, m ≤ 90000 → RBlockOk lib ts m
  | 0, _ => fun l bv tv tc w hsz hg hv hts => by
    have := len_sizeBs l
    exact block_walk (refF ts) l bv tv _ tc w (by omega) hv (Lib.hid fun k hk => by omega)
  | m + 1, hm => fun l bv tv tc w hsz hg hv hts => by
    have := len_sizeBs l
    refine block_walk (refF ts) l bv tv _ tc w (by omega) hv (Lib.hid fun k hk av ha ea ac hc ec w1 hb hs ht he hok => ?_)
    exact one_any lib ts htg m (by omega) (rblock_ok lib ts htg m (by omega)) (at' l k) av ha ea tv ac hc ec tc w1 (by have := sizeB_at l k hk; omega) (hg.mem _ (at_mem hk)) hok hs ht he (hts.stays (Stays.of_below hb))
end Go.Proofs.YtehmmokkjojggabGreatDoor
