/- Contracts and plain lemmas (LawA): no statement of the seat is proved here. -/
import Derived.Test.YtehmmokkjojggabGreatDoorZq24
set_option linter.unusedSimpArgs false
set_option linter.unusedVariables false
set_option linter.unusedSectionVars false
/- Walks of package backsteplaw40: binds. -/
namespace Go.Proofs.YtehmmokkjojggabGreatDoor
set_option linter.unusedVariables false
open Go.RowKit

theorem BdCells.congr {A : Nat → Prop} {w : World} {c d : Nat → Value} {x : Bd} (h : BdCells A w c x) (e : ∀ i, i < 8 → d i = c i) : BdCells A w d x :=
  ⟨(e 0 (by omega)).trans h.c0, (e 1 (by omega)).trans h.c1, (e 2 (by omega)).trans h.c2, (e 3 (by omega)).trans h.c3, (e 4 (by omega)).trans h.c4, by rw [e 5 (by omega)]; exact h.c5, by rw [e 6 (by omega)]; exact h.c6, by rw [e 7 (by omega)]; exact h.c7, h.ok⟩
/-- binds as elements -/
def BdE : Elem Bd where
  size := 8
  C := BdCells
  stays := fun hs _ _ h => h.stays hs
  congr := fun h e => h.congr e
  one := fun h i hi => by
    obtain ⟨_, a5, c5, e5⟩ := h.c5.form
    obtain ⟨_, a6, c6, e6⟩ := h.c6.form
    obtain ⟨_, a7, c7, e7⟩ := h.c7.form
    match i, hi with
    | 0, _ => rw [h.c0]; rfl
    | 1, _ => rw [h.c1]; rfl
    | 2, _ => rw [h.c2]; rfl
    | 3, _ => rw [h.c3]; rfl
    | 4, _ => rw [h.c4]; rfl
    | 5, _ => rw [e5]; rfl
    | 6, _ => rw [e6]; rfl
    | 7, _ => rw [e7]; rfl
theorem bds_rows {A : Nat → Prop} {w : World} {v : Value} {l : List Bd} : BdsAt A w v l ↔ RowsAt BdE A w v l := by
  constructor
  · intro h
    cases h with
    | mk _ _ cs h hf ht he => exact ⟨cs, h, fun j hj => by obtain ⟨e0, e1, e2, e3, e4, e5, e6⟩ := hf j hj; exact ⟨e0, e1, e2, e3, e4, e5, ht j hj, he j hj, e6⟩⟩
  · rintro ⟨cs, h, hf⟩
    exact .mk v l cs h (fun j hj => ⟨(hf j hj).c0, (hf j hj).c1, (hf j hj).c2, (hf j hj).c3, (hf j hj).c4, (hf j hj).c5, (hf j hj).ok⟩) (fun j hj => (hf j hj).c6) (fun j hj => (hf j hj).c7)
theorem TRBd : RowT Tryz.prog 46 86 (.agg #[.string ByteArray.empty, .bool false, .int .u8 0, .int .i64 0, .string ByteArray.empty, .slice none 0 0, .slice none 0 0, .slice none 0 0]) 8 120 := ⟨Tryz.underlying46, by kernel_rfl⟩

/-- what binds leaves -/
def BdsPost (A : Nat → Prop) (l : List Bd) (w : World) (e : Ending) (w' : World) : Prop := ∃ a c, e = .returned (.slice a l.length c) ∧ BdsAt (NewB A w) w' (.slice a l.length c) l ∧ Below w.heap.size w w'
def LBindsOk (m : Nat) : Prop := ∀ (l : List Bd) (bv : Value) (A : Nat → Prop) (w : World), sizeBs l ≤ m → BdsAt A w bv l → Calls Tryz.prog 15 #[bv] w (BdsPost A l w)

theorem lbT_rows {A : Nat → Prop} {w wr w4 : World} {l : List Bd} {k : Nat} {b : Bd} {va aa a3 a4 : Option Addr} {vc ac c3 c4 : Nat} (h : RowsOwn BdE 86 (NewB A w) w.heap.size wr (.slice va k vc) l) (hw : w.heap.size ≤ wr.heap.size) (hb : Below wr.heap.size wr w4) (hs : StrsAt (fun b => A b ∧ b < w.heap.size) w4 (.slice aa b.args.length ac) b.args)
    (ht : BdsAt (fun x => (A x ∧ x < w.heap.size) ∨ wr.heap.size ≤ x) w4 (.slice a3 b.thn.length c3) b.thn) (he : BdsAt (fun x => (A x ∧ x < w.heap.size) ∨ wr.heap.size ≤ x) w4 (.slice a4 b.els.length c4) b.els) (hok : b.Ok1) :
    RowsOwn BdE 86 (NewB A w) w.heap.size (w4.alloc (.cells #[.string b.to, .bool b.list, .int .u8 b.op, .int .i64 b.num, .string b.name, .slice aa b.args.length ac, .slice a3 b.thn.length c3, .slice a4 b.els.length c4] 86)) (.slice va k vc) l ∧ RowsAt BdE (fun x => (A x ∧ x < w.heap.size) ∨ wr.heap.size ≤ x) (w4.alloc (.cells #[.string b.to, .bool b.list, .int .u8 b.op, .int .i64 b.num, .string b.name, .slice aa b.args.length ac, .slice a3 b.thn.length c3, .slice a4 b.els.length c4] 86)) (.slice (some ⟨w4.heap.size, 0, none⟩) 1 1) [b] ∧
    ∀ x, x < (w4.alloc (.cells #[.string b.to, .bool b.list, .int .u8 b.op, .int .i64 b.num, .string b.name, .slice aa b.args.length ac, .slice a3 b.thn.length c3, .slice a4 b.els.length c4] 86)).heap.size → ((A x ∧ x < w.heap.size) ∨ wr.heap.size ≤ x) → NewB A w x ∧ (Value.slice va k vc).ownBlock ≠ some x := by
  have hBa : Below w4.heap.size w4 (w4.alloc (.cells #[.string b.to, .bool b.list, .int .u8 b.op, .int .i64 b.num, .string b.name, .slice aa b.args.length ac, .slice a3 b.thn.length c3, .slice a4 b.els.length c4] 86)) := (Below.refl _ _).alloc (Nat.le_refl _) _
  refine ⟨(h.below hb).below hBa, rows_1 (heap_alloc_new w4 _) (.inr hb.size) rfl ⟨rfl, rfl, rfl, rfl, rfl, (hs.stays (Stays.of_below hBa)).stays ⟨Nat.le_refl _, fun x _ a => ⟨rfl, .inl a⟩⟩, ht.stays (Stays.of_below hBa), he.stays (Stays.of_below hBa), hok⟩, fun x _ hx => ⟨?_, fun e => ?_⟩⟩
  · rcases hx with hx | hx
    · exact .inl hx.1
    · exact .inr (by omega)
  · have := h.lt e
    rcases hx with hx | hx <;> omega

set_option maxRecDepth 100000 in
set_option maxHeartbeats 3200000 in
theorem lbinds_walk (l : List Bd) (bv : Value) (A : Nat → Prop) (w : World) (hsz : l.length ≤ 100000) (hv : BdsAt A w bv l)
    (HB : Hid (∀ k, k < l.length → ∀ (v : Value) (A : Nat → Prop) (w : World), BdsAt A w v (at' l k).thn → Calls Tryz.prog 15 #[v] w (BdsPost A (at' l k).thn w)))
    (HE : Hid (∀ k, k < l.length → ∀ (v : Value) (A : Nat → Prop) (w : World), BdsAt A w v (at' l k).els → Calls Tryz.prog 15 #[v] w (BdsPost A (at' l k).els w))) :
    Calls Tryz.prog 15 #[bv] w (BdsPost A l w) := by
  obtain ⟨hll, la, lc, rfl⟩ := hv.form
  have HV := Lib.hid (hv.stays (A' := fun b => A b ∧ b < w.heap.size) (w' := w) ⟨Nat.le_refl _, fun b hb a => ⟨rfl, a, hb⟩⟩)
  clear hv
  go_enter Tryz.func15, Tryz.ntmps15
  go_wp2
  go_loopw [8, 3] (fun i v wr => ∃ k : Nat, i = .int .i64 k ∧ k ≤ l.length ∧ Below w.heap.size w wr ∧ RowsOwn BdE 86 (NewB A w) w.heap.size wr v (l.take k)) (fun i _ _ => l.length - (intOf i).toNat)
  case atStart => exact ⟨0, rfl, Nat.zero_le _, Below.refl _ _, by rw [List.take_zero]; exact RowsOwn.nil _ _ _ _ _⟩
  case round =>
    obtain ⟨k, rfl, hk, hbl, hown⟩ := hrel
    have hlk : (l.take k).length = k := by simp; omega
    obtain ⟨va, vc, hvv⟩ := hown.form
    rw [hlk] at hvv
    subst hvv
    have HOWN := Lib.hid hown
    have HLK := Lib.hid hlk
    clear hown hlk
    by_cases hlt : k < l.length
    · obtain ⟨b, off, cap, aa, ac, ta, tc, ea, ec, he, hb, c0, c1, c2, c3, c4, c5, c6, c7, hs, ht, hel, hok⟩ := (HV.out.stays (Stays.of_below hbl)).at hlt
      simp only [Value.slice.injEq] at he
      obtain ⟨rfl, -, rfl⟩ := he
      have HTK : Hid (l.take (k + 1) = l.take k ++ [at' l k]) := Lib.hid (by rw [List.take_add_one, List.getElem?_eq_getElem hlt, at_eq hlt]; rfl)
      have HX := Lib.hid (heap_alloc_new wr (.cells #[.string (at' l k).to, .bool (at' l k).list, .int .u8 (at' l k).op, .int .i64 (at' l k).num, .string (at' l k).name, .slice aa (at' l k).args.length ac, .slice ta (at' l k).thn.length tc, .slice ea (at' l k).els.length ec] 88))
      have hst : ∀ w1, Below wr.heap.size wr w1 → Stays (fun b => A b ∧ b < w.heap.size) (fun b => A b ∧ b < w.heap.size) wr w1 := fun w1 hw => Stays.of_below hw
      have HS1 : Hid (∀ w1, Below wr.heap.size wr w1 → StrsAt (fun b => A b ∧ b < w.heap.size) w1 (.slice aa (at' l k).args.length ac) (at' l k).args) := Lib.hid (fun w1 hw => hs.stays (hst w1 hw))
      have HT1 : Hid (∀ w1, Below wr.heap.size wr w1 → Calls Tryz.prog 15 #[.slice ta (at' l k).thn.length tc] w1 (BdsPost (fun b => A b ∧ b < w.heap.size) (at' l k).thn w1)) := Lib.hid (fun w1 hw => HB.out k hlt _ _ w1 (ht.stays (hst w1 hw)))
      have HE1 : Hid (∀ w1, Below wr.heap.size wr w1 → Calls Tryz.prog 15 #[.slice ea (at' l k).els.length ec] w1 (BdsPost (fun b => A b ∧ b < w.heap.size) (at' l k).els w1)) := Lib.hid (fun w1 hw => HE.out k hlt _ _ w1 (hel.stays (hst w1 hw)))
      have hba : Below wr.heap.size wr (wr.alloc (.cells #[.string (at' l k).to, .bool (at' l k).list, .int .u8 (at' l k).op, .int .i64 (at' l k).num, .string (at' l k).name, .slice aa (at' l k).args.length ac, .slice ta (at' l k).thn.length tc, .slice ea (at' l k).els.length ec] 88)) := (Below.refl _ _).alloc (Nat.le_refl _) _
      have hsl := hbl.size
      have HOK := Lib.hid hok
      clear hs ht hel hst hok
      go_wp2
      generalize hW : (wr.alloc (.cells #[.string (at' l k).to, .bool (at' l k).list, .int .u8 (at' l k).op, .int .i64 (at' l k).num, .string (at' l k).name, .slice aa (at' l k).args.length ac, .slice ta (at' l k).thn.length tc, .slice ea (at' l k).els.length ec] 88)) = W at *
      have hWs : wr.heap.size < W.heap.size := by rw [← hW]; simp
      clear hW
      have HC : Hid (∀ w1, Below W.heap.size W w1 → (fun w1 => w1.cell? ⟨wr.heap.size, 0, none⟩ = some (.string (at' l k).to) ∧ w1.cell? ⟨wr.heap.size, 1, none⟩ = some (.bool (at' l k).list) ∧ w1.cell? ⟨wr.heap.size, 2, none⟩ = some (.int .u8 (at' l k).op) ∧ w1.cell? ⟨wr.heap.size, 3, none⟩ = some (.int .i64 (at' l k).num) ∧ w1.cell? ⟨wr.heap.size, 4, none⟩ = some (.string (at' l k).name) ∧ w1.cell? ⟨wr.heap.size, 5, none⟩ = some (.slice aa (at' l k).args.length ac) ∧ w1.cell? ⟨wr.heap.size, 6, none⟩ = some (.slice ta (at' l k).thn.length tc) ∧ w1.cell? ⟨wr.heap.size, 7, none⟩ = some (.slice ea (at' l k).els.length ec)) w1) := Lib.hid (fun w1 hw => cellsB (blk_below hw HX.out))
      go_region_held3 (fun w1 => w1.cell? ⟨wr.heap.size, 0, none⟩ = some (.string (at' l k).to) ∧ w1.cell? ⟨wr.heap.size, 1, none⟩ = some (.bool (at' l k).list) ∧ w1.cell? ⟨wr.heap.size, 2, none⟩ = some (.int .u8 (at' l k).op) ∧ w1.cell? ⟨wr.heap.size, 3, none⟩ = some (.int .i64 (at' l k).num) ∧ w1.cell? ⟨wr.heap.size, 4, none⟩ = some (.string (at' l k).name) ∧ w1.cell? ⟨wr.heap.size, 5, none⟩ = some (.slice aa (at' l k).args.length ac) ∧ w1.cell? ⟨wr.heap.size, 6, none⟩ = some (.slice ta (at' l k).thn.length tc) ∧ w1.cell? ⟨wr.heap.size, 7, none⟩ = some (.slice ea (at' l k).els.length ec))
        (first | with_reducible exact ⟨p0, p1, p2, p3, p4, p5, p6, p7⟩ | with_reducible exact HC.out _ (by (repeat (with_reducible first | exact Below.refl _ _ | refine bel_drew ?_ | refine bel_alloc ?_ | (apply bel_step; focus assumption)))))
        (first
        | (go_at_call 15; (with_reducible refine (HT1.out _ (hba.trans (Below.mono (by (repeat (with_reducible first | exact Below.refl _ _ | refine bel_drew ?_ | refine bel_alloc ?_ | (apply bel_step; focus assumption)))) hba.size))).mono ?_); rintro e w3 ⟨a3, c3, rfl, hk3, hb3⟩)
        | (go_at_call 15; (with_reducible refine (HE1.out _ (hba.trans (Below.mono (by (repeat (with_reducible first | exact Below.refl _ _ | refine bel_drew ?_ | refine bel_alloc ?_ | (apply bel_step; focus assumption)))) hba.size))).mono ?_); rintro e w4 ⟨a4, c4, rfl, hk4, hb4⟩; have hw34 : Below w3.heap.size w3 w4 := (by (repeat (with_reducible first | exact Below.refl _ _ | refine bel_drew ?_ | refine bel_alloc ?_ | (apply bel_step; focus assumption)))); have hw3 : Below W.heap.size W w3 := (by (repeat (with_reducible first | exact Below.refl _ _ | refine bel_drew ?_ | refine bel_alloc ?_ | (apply bel_step; focus assumption)))); have hs3 := hw3.size; have hw4 := (hba.trans ((hw3.trans (hw34.mono hw3.size)).mono hba.size)); have HW4 := Lib.hid hw4; have HR := Lib.hid (lbT_rows (b := at' l k) (aa := aa) (ac := ac) HOWN.out hsl hw4 (HS1.out w4 hw4) (hk3.stays ⟨hw34.size, fun x hx a => ⟨hw34.block x hx, by rcases a with a | a; exact .inl a; exact .inr (by simp at a; omega)⟩⟩) (hk4.stays ⟨Nat.le_refl _, fun x _ a => ⟨rfl, by rcases a with a | a; exact .inl a; exact .inr (by (try simp at a); omega)⟩⟩) HOK.out); clear hk3 hk4 hw4 hw34)
        | (refine step_rows TRBd rfl (by decide) (by rfl) (.tmp 12) (.tmp 32) (by rfl) (by rfl) (by rfl) HR.out.1 HR.out.2.1 HR.out.2.2 (by rw [HLK.out]; unfold maxLen; simp; omega) (by rw [HLK.out]; simp; omega) (by have := HW4.out.size; simp; omega) ?_; intro a' c' w6 h6 hg6 hn6; have hx6 : w6.heap[wr.heap.size]? = some (.cells #[.string (at' l k).to, .bool (at' l k).list, .int .u8 (at' l k).op, .int .i64 (at' l k).num, .string (at' l k).name, .slice aa (at' l k).args.length ac, .slice ta (at' l k).thn.length tc, .slice ea (at' l k).els.length ec] 88) := (hg6.block wr.heap.size (by have := HW4.out.size; have := hw3.size; simp; omega) (fun e => by have := (HOWN.out.lt e.symm).2; omega)).trans (by (repeat (with_reducible first | exact HX.out | refine blk_drew ?_ | refine blk_alloc ?_ | (apply blk_below; focus assumption)))); obtain ⟨p0, p1, p2, p3, p4, p5, p6, p7⟩ := cellsB hx6; have H6 := Lib.hid h6; have HG6 := Lib.hid hg6; clear h6 hg6 hn6 hx6)
        | fail)
      all_goals
        go_wp2
        have h6 := H6.out
        rw [HLK.out] at h6
        refine ⟨⟨k + 1, by go_num, by omega, ?_, by rw [HTK.out]; exact h6⟩, by simp [intOf]; omega⟩
        exact (hbl.trans ((bel_alloc HW4.out).mono hbl.size)).grown HG6.out (by have := HW4.out.size; simp; omega) (fun j e => (HOWN.out.lt e).1)
    · obtain rfl : k = l.length := by omega
      have hlt' : ¬ (l.length : Int) < (l.length : Int) := by omega
      rw [List.take_length] at HOWN
      go_wp2
      go_ret
      exact ⟨_, _, rfl, bds_rows.2 (HOWN.out.shut (fun _ a => a) (fun j e => .inr (HOWN.out.lt e).1) (by unfold maxLen; omega)), hbl⟩

theorem lbinds_ok : ∀ m, m ≤ 90000 → LBindsOk m
  | 0, _ => fun l bv A w hsz hv => by
    have := len_sizeBs l
    exact lbinds_walk l bv A w (by omega) hv (Lib.hid fun k hk => by omega) (Lib.hid fun k hk => by omega)
  | m + 1, hm => fun l bv A w hsz hv => by
    have := len_sizeBs l
    have hk2 : ∀ k, k < l.length → sizeBs (at' l k).thn + sizeBs (at' l k).els + 1 ≤ sizeB (at' l k) := fun k hk => by
      cases at' l k with
      | mk tn li op num name args thn els => rw [sizeB]; show sizeBs thn + sizeBs els + 1 ≤ _; omega
    exact lbinds_walk l bv A w (by omega) hv (Lib.hid fun k hk v A w h => lbinds_ok m (by omega) _ v A w (by have := sizeB_at l k hk; have := hk2 k hk; omega) h) (Lib.hid fun k hk v A w h => lbinds_ok m (by omega) _ v A w (by have := sizeB_at l k hk; have := hk2 k hk; omega) h)
end Go.Proofs.YtehmmokkjojggabGreatDoor
