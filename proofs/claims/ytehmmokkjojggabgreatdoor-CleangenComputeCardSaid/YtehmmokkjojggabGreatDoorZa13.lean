/- Contracts and plain lemmas for the law (LawH): no statement of the seat is proved here. -/
import Derived.Test.YtehmmokkjojggabGreatDoorZa12
/- The law CleangenCompute. -/
namespace Go.Proofs.YtehmmokkjojggabGreatDoor
set_option linter.unusedVariables false
open Go.RowKit

theorem TTg : RowT Tryz.prog 32 39 (.agg #[.string ByteArray.empty, .string ByteArray.empty, .slice none 0 0]) 3 56 := ⟨Tryz.underlying32, by kernel_rfl⟩

/-- the loop over the library: k targets are made -/
structure TgsSt (g : AFn) (pa ta ba : Option Addr) (pc tc bc : Nat) (extra : List ByteArray) (lib : List Fn) (w : World) (k : Nat) (a : Option Addr) (c : Nat) (wr : World) : Prop where
  f : wr.heap[w.heap.size]? = some (.cells #[.string g.name, .slice pa g.params.length pc, .bool g.list, .slice ta g.temps.length tc, .slice ba g.body.length bc, .string g.result] 31 (0, 0))
  m : wr.heap[w.heap.size + 1]? = some (.cells #[.slice a k c] 32 (0, 0))
  row : RowsOwn TgE 39 (fun b => b < w.heap.size ∨ w.heap.size + 2 ≤ b) (w.heap.size + 2) wr (.slice a k c) ((tgL extra lib).take k)
  below : Below w.heap.size w wr
  size : w.heap.size + 2 ≤ wr.heap.size

theorem tg_round {g : AFn} {pa ta ba : Option Addr} {pc tc bc : Nat} {extra : List ByteArray} {lib : List Fn} {w : World} {k : Nat} {a : Option Addr} {c : Nat} {wr : World} (h : TgsSt g pa ta ba pc tc bc extra lib w k a c wr) (X Y : Obj) {xa : Option Addr} {xc : Nat} {t : Tg} (hs : StrsAt (fun b => b < w.heap.size) wr (.slice xa t.extra.length xc) t.extra) (h1 : t.name.size ≤ maxLen) (h2 : t.proc.size ≤ maxLen) :
    RowsOwn TgE 39 (fun b => b < w.heap.size ∨ w.heap.size + 2 ≤ b) (w.heap.size + 2) (((wr.alloc X).alloc Y).alloc (.cells #[.string t.name, .string t.proc, .slice xa t.extra.length xc] 39)) (.slice a k c) ((tgL extra lib).take k) ∧
    RowsAt TgE (fun b => b < w.heap.size ∨ wr.heap.size ≤ b) (((wr.alloc X).alloc Y).alloc (.cells #[.string t.name, .string t.proc, .slice xa t.extra.length xc] 39)) (.slice (some ⟨wr.heap.size + 1 + 1, 0, none⟩) 1 1) [t] ∧
    ∀ b, b < (((wr.alloc X).alloc Y).alloc (.cells #[.string t.name, .string t.proc, .slice xa t.extra.length xc] 39)).heap.size → (b < w.heap.size ∨ wr.heap.size ≤ b) → (b < w.heap.size ∨ w.heap.size + 2 ≤ b) ∧ (Value.slice a k c).ownBlock ≠ some b := by
  have hB : Below wr.heap.size wr (((wr.alloc X).alloc Y).alloc (.cells #[.string t.name, .string t.proc, .slice xa t.extra.length xc] 39)) := (((Below.refl _ _).alloc (Nat.le_refl _) _).alloc (by simp) _).alloc (by simp; omega) _
  refine ⟨h.row.below hB, rows_1 (at_new2 wr X Y _) (.inr (by omega)) rfl ⟨rfl, rfl, (hs.stays (Stays.of_below hB)).stays ⟨Nat.le_refl _, fun x _ a => ⟨rfl, .inl a⟩⟩, h1, h2⟩, fun x _ hx => ⟨?_, fun e => ?_⟩⟩
  · have := h.size
    rcases hx with hx | hx
    · exact .inl hx
    · exact .inr (by omega)
  · have := h.row.lt e
    rcases hx with hx | hx <;> omega

theorem tg_next {g : AFn} {pa ta ba : Option Addr} {pc tc bc : Nat} {extra : List ByteArray} {lib : List Fn} {w : World} {k : Nat} {a : Option Addr} {c : Nat} {wr : World} (h : TgsSt g pa ta ba pc tc bc extra lib w k a c wr) {W w6 : World} (hB : Below wr.heap.size wr W) (hg : W.grownBy w6 (Value.slice a k c).ownBlock)
    {n : Nat} (hn : n = k + 1) {a' : Option Addr} {c' : Nat} (h6 : RowsOwn TgE 39 (fun b => b < w.heap.size ∨ w.heap.size + 2 ≤ b) (w.heap.size + 2) w6 (.slice a' n c') ((tgL extra lib).take (k + 1))) :
    TgsSt g pa ta ba pc tc bc extra lib w (k + 1) a' c' (w6.setCell ⟨w.heap.size + 1, 0, none⟩ (.slice a' n c')) := by
  subst hn
  obtain ⟨hf, hm, hrow, hb, hsz⟩ := h
  have hown : ∀ q, (Value.slice a k c).ownBlock = some q → w.heap.size + 2 ≤ q := fun q e => (hrow.lt e).1
  have h1 : ∀ q, q < w.heap.size + 2 → w6.heap[q]? = wr.heap[q]? := fun q hq => (hg.block q (by have := hB.size; omega) (fun e => by have := hown q e.symm; omega)).trans (hB.block q (by omega))
  have hK := keeps_set w6 (w.heap.size + 1) 0 (.slice a' (k + 1) c')
  have hs6 : wr.heap.size ≤ w6.heap.size := Nat.le_trans hB.size hg.size
  have hb6 : Below w.heap.size w w6 := (hb.trans (hB.mono hb.size)).grown hg (Nat.le_trans hb.size hB.size) (fun j e => by have := hown j e; omega)
  refine ⟨(hK.block _ (by omega) (by omega)).trans ((h1 _ (by omega)).trans hf), heap_setCell_same w6 _ 0 _ _ _ ((h1 _ (by omega)).trans hm), h6.keeps hK (fun q e e2 => by have := (h6.lt e).1; omega) (fun q _ hd e => by omega), hb6.setCell (by simp) _, Nat.le_trans hsz (Nat.le_trans hs6 hK.size)⟩

theorem tgL_mem {extra : List ByteArray} {lib : List Fn} {k : Nat} (hk : k < (tgL extra lib).length) : (at' (tgL extra lib) k).extra.length ≤ extra.length ∧ (at' (tgL extra lib) k).proc.size = (at' lib k).name.size + 1 := by
  rw [tgL_len] at hk
  rw [tgL_at extra lib hk, tgOf]
  refine ⟨?_, by show ((at' lib k).name ++ (⟨#[120]⟩ : ByteArray)).size = _; rw [ByteArray.size_append]; rfl⟩
  show (if k % 2 = 0 then extra else []).length ≤ _
  split
  · exact Nat.le_refl _
  · exact Nat.zero_le _
theorem fst_small {extra : List ByteArray} {lib : List Fn} (hv : (validE lib).2 = 0) (hx : extra.length ≤ 3) {nm : ByteArray} (hn : nm.size ≤ maxLen) : (fstF (tgL extra lib) nm).1.size ≤ maxLen ∧ (fstF (tgL extra lib) nm).2.length ≤ 1000 := by
  by_cases hex : ∃ k, k < (tgL extra lib).length ∧ (at' (tgL extra lib) k).name = nm
  · obtain ⟨k, hk, e⟩ := hex
    have hb : ∀ j, j < k → (at' (tgL extra lib) j).name ≠ nm := fun j hj e2 => tgL_apart hv extra j k hj hk (e2.trans e.symm)
    rw [fst_hit hk e hb]
    have h1 := tgL_mem hk
    have h2 := (nm_name (valid_ok hv (by rw [tgL_len] at hk; exact hk)).name).2.1
    exact ⟨by show (at' (tgL extra lib) k).proc.size ≤ _; rw [h1.2]; unfold maxLen; omega, by show (at' (tgL extra lib) k).extra.length ≤ _; omega⟩
  · rw [fst_none (fun j hj e => hex ⟨j, hj, e⟩)]
    exact ⟨hn, by simp⟩
theorem clos_ok {extra : List ByteArray} {lib : List Fn} (hv : (validE lib).2 = 0) (hx : extra.length ≤ 3) {g : Nat} {tv : Value} {w : World} (hg : w.heap[g]? = some (.cells #[tv] 32 (0, 0))) (hts : RowsAt TgE Any w tv (tgL extra lib)) :
    ClosOk (.func (.func 12) #[] #[.pointer (some ⟨g, 0, none⟩)]) (fstF (tgL extra lib)) w := by
  refine ⟨_, _, rfl, fun args w0 => by kernel_rfl, fun nm w1 hn hb => ⟨?_, fst_small hv hx hn⟩⟩
  exact clos_C (tgL extra lib) nm g tv w1 (blk_below hb hg) (hts.stays (Stays.of_below hb)) hn
theorem tg_ok {extra : List ByteArray} {lib : List Fn} (hv : (validE lib).2 = 0) (hx : extra.length ≤ 3) : TgOk (tgL extra lib) := fun nm hn => by
  have h := fst_small hv hx hn
  have e : fstF (tgL extra lib) nm = refF (tgL extra lib) nm := fst_ref (tgL_apart hv extra) nm
  rw [e] at h
  exact ⟨h.2, h.1⟩

theorem nd_zero (A : Nat → Prop) (w : World) : NdAt A w (.agg #[.int .u8 0, .int .i64 0, .string ⟨#[]⟩, .slice none 0 0]) (.mk 0 0 ByteArray.empty []) :=
  ⟨⟨by show (0 : Int) ≤ 0 ∧ (0 : Int) ≤ 255; omega, by unfold In64; exact ⟨by show (-9223372036854775808 : Int) ≤ 0; omega, by show (0 : Int) ≤ 9223372036854775807; omega⟩, Nat.zero_le _⟩, _, rfl, KidsAt.nil _⟩

set_option maxRecDepth 100000 in
set_option maxHeartbeats 6400000 in
theorem walk_cleangenCompute (w : World) (ht : Tab w) (lv : Value) (lib : List Fn) (hl : FnsAt Any w lv lib) (k : Int) (hk : 0 ≤ k ∧ k ≤ 255) (ev : Value) (extra : List ByteArray) (he : StrsAt Any w ev extra) :
    Calls Tryz.prog 3 #[lv, .int .u8 k, ev] w fun e w' => e = .returned (.bool true) ∧ Below w.heap.size w w' := by
  obtain ⟨hll, la, lc, rfl⟩ := hl.form
  obtain ⟨hel, ea, ec, rfl⟩ := he.form
  have HL := Lib.hid hl
  have HE := Lib.hid he
  have HNM := Lib.hid (normal_any _ lib Any w hl ht)
  have HT := Lib.hid ht
  clear hl he ht
  go_enter Tryz.func3, Tryz.ntmps3
  go_wp2_with fail
  refine HNM.out.mono ?_
  intro e w1 hp1
  have hb1 := hp1.1
  have HAW : Hid (∀ w', Below w1.heap.size w1 w' → Calls Tryz.prog 10 #[] w' fun e w2 => e = .returned (.bool true) ∧ Below w'.heap.size w' w2) := Lib.hid (fun w' h => awake_any w' ((HT.out.below hb1).below h))
  rcases hp1.2 with ⟨xa, xn, xc, rfl⟩ | ⟨xa, xc, rfl, hso, hafn⟩
  · clear hp1
    go_wp2_with (go_at_call 10; refine (HAW.out _ (by first | exact Below.refl _ _ | assumption)).mono ?_; rintro e w2 ⟨rfl, hb2⟩)
    go_ret
    exact ⟨rfl, hb1.trans ((‹Below w1.heap.size w1 _›.trans (hb2.mono ‹Below w1.heap.size w1 _›.size)).mono hb1.size)⟩
  · have HSO := Lib.hid hso
    have HAF := Lib.hid hafn
    clear hp1 hso hafn
    by_cases h0 : (normL lib).length = 0
    · have d0 : (((normL lib).length : Int) == 0) = true := by simp [h0]
      go_wp2_with (go_at_call 10; refine (HAW.out _ (by first | exact Below.refl _ _ | assumption)).mono ?_; rintro e w2 ⟨rfl, hb2⟩)
      go_ret
      exact ⟨rfl, hb1.trans ((‹Below w1.heap.size w1 _›.trans (hb2.mono ‹Below w1.heap.size w1 _›.size)).mono hb1.size)⟩
    · have d0 : (((normL lib).length : Int) == 0) = false := by simp [h0]
      by_cases h3 : 3 < extra.length
      · have d3 : decide ((3 : Int) < (extra.length : Int)) = true := by simp; omega
        go_wp2_with (go_at_call 10; refine (HAW.out _ (by first | exact Below.refl _ _ | assumption)).mono ?_; rintro e w2 ⟨rfl, hb2⟩)
        go_ret
        exact ⟨rfl, hb1.trans ((‹Below w1.heap.size w1 _›.trans (hb2.mono ‹Below w1.heap.size w1 _›.size)).mono hb1.size)⟩
      · have d3 : decide ((3 : Int) < (extra.length : Int)) = false := by simp; omega
        have hnlen : (normL lib).length = lib.length := by simp [normL]
        have hkm : (k % (lib.length : Int)).toNat < (normL lib).length := by
          have := Int.emod_lt_of_pos k (b := (lib.length : Int)) (by omega)
          omega
        have hkn : (0 : Int) ≤ k % (lib.length : Int) ∧ k % (lib.length : Int) < (lib.length : Int) := ⟨Int.emod_nonneg _ (by omega), Int.emod_lt_of_pos k (by omega)⟩
        have d0' : ((lib.length : Int) == 0) = false := by rw [← hnlen]; exact d0
        have ht : k.tmod (lib.length : Int) = k % (lib.length : Int) := Int.tmod_eq_emod_of_nonneg hk.1
        have hl8 := HSO.out.1
        go_wp2_with (go_at_call 10; refine (HAW.out _ (by first | exact Below.refl _ _ | assumption)).mono ?_; rintro e w2 ⟨rfl, hb2⟩; obtain ⟨b, off, cap, pa, pc, ta, tc, ba, bc, he, hb, hcap, c0, c1, c2, c3, c4, c5, hps, htm, hbd, hsn, hsr⟩ := afn_at (HAF.out.stays (Stays.of_below hb2)) hkm; simp only [Value.slice.injEq] at he; obtain ⟨rfl, -, rfl⟩ := he; have HBD := Lib.hid hbd; clear hps htm hbd hsr; generalize hg : at' (normL lib) (k % (lib.length : Int)).toNat = g at c0 c1 c2 c3 c4 c5 hsn HBD; rw [hnlen] at hcap)
        go_loopw [50] (fun i wr => ∃ (k : Nat) (a : Option Addr) (c : Nat), i = .int .i64 k ∧ k ≤ lib.length ∧ TgsSt g pa ta ba pc tc bc extra lib w2 k a c wr) (fun i _ => lib.length - (intOf i).toNat)
        case atStart =>
          refine ⟨0, _, _, rfl, Nat.zero_le _, at_old _ _ _, at_new _ _ _, ?_, ((Below.refl _ _).alloc (Nat.le_refl _) _).alloc (by simp) _, by simp⟩
          rw [List.take_zero]; exact RowsOwn.nil _ _ _ _ _
        case round =>
          obtain ⟨m, a, c, rfl, hm, hst⟩ := hrel
          by_cases hlt : m < lib.length
          · have hf := hst.f
            have hmm := hst.m
            have hsz := hst.size
            have hw2r := hst.below
            obtain ⟨b', off', cap', qa, qc, ka, kc, he', hb', _, _, e0, e1, e2, e3, e4, e5, e6, hsn', hpar', hnd'⟩ := (HL.out.stays (Stays.of_below ((hb1.trans (hb2.mono hb1.size)).trans (hw2r.mono (Nat.le_trans hb1.size hb2.size))))).at hlt
            simp only [Value.slice.injEq] at he'
            obtain ⟨rfl, -, rfl⟩ := he'
            clear hpar' hnd'
            have cm : wr.cell? ⟨w2.heap.size + 1, 0, none⟩ = some (.slice a m c) := cell_blk hmm 0 rfl
            have fm : wr.frozen? ⟨w2.heap.size + 1, 0, none⟩ = false := unfrozen hmm 0
            have lt1 : w2.heap.size + 1 < wr.heap.size := by omega
            have hs12 : (at' lib m).name.size ≤ 16 := (nm_name (valid_ok HSO.out.2.2 hlt).name).2.1
            have HTK0 := tgL_take extra lib hlt
            have HEX : Hid (StrsAt (fun b => b < w2.heap.size) wr (.slice ea extra.length ec) extra) := Lib.hid ((HE.out.stays (Stays.of_below (hb1.trans (hb2.mono hb1.size)))).stays (A' := fun b => b < w2.heap.size) ⟨hw2r.size, fun b hb _ => ⟨hw2r.block b hb, hb⟩⟩)
            have HEN : Hid (StrsAt (fun b => b < w2.heap.size) wr (.slice none 0 0) ([] : List ByteArray)) := Lib.hid (RowsAt.nil StrE _ _)
            have HPS : Hid (((at' lib m).name ++ ⟨#[120]⟩).size ≤ maxLen) := Lib.hid (by rw [ByteArray.size_append]; unfold maxLen; show _ + 1 ≤ _; omega)
            by_cases hpar : m % 2 = 0
            · have dp : ((m : Int).tmod 2 == 0) = true := by rw [Int.tmod_eq_emod_of_nonneg (by omega)]; simp; omega
              have dp' : ((m : Int) % 2 == 0) = true := by simp; omega
              have HR := Lib.hid (tg_round hst (.cells #[.string (at' lib m).name, .slice qa (at' lib m).params.length qc, .bool (at' lib m).list, .int .u8 (at' lib m).body.kind, .int .i64 (at' lib m).body.num, .string (at' lib m).body.name, .slice ka (at' lib m).body.kids.length kc] 37) (.cells #[.string (at' lib m).name, .string ((at' lib m).name ++ ⟨#[120]⟩), .slice ea extra.length ec] 39) (t := ⟨(at' lib m).name, (at' lib m).name ++ ⟨#[120]⟩, extra⟩) (xa := ea) (xc := ec) HEX.out hsn' HPS.out)
              have hmm2 : ((wr.alloc (.cells #[.string (at' lib m).name, .slice qa (at' lib m).params.length qc, .bool (at' lib m).list, .int .u8 (at' lib m).body.kind, .int .i64 (at' lib m).body.num, .string (at' lib m).body.name, .slice ka (at' lib m).body.kids.length kc] 37)).alloc (.cells #[.string (at' lib m).name, .string ((at' lib m).name ++ ⟨#[120]⟩), .slice ea extra.length ec] 39)).heap[w2.heap.size + 1]? = some (.cells #[.slice a m c] 32 (0, 0)) := (heap_alloc_old _ _ (by simp; omega)).trans ((heap_alloc_old _ _ lt1).trans hmm)
              have cm2 := cell_blk hmm2 0 rfl
              have fm2 := unfrozen hmm2 0
              clear cm fm
              have HTK : Hid ((tgL extra lib).take (m + 1) = (tgL extra lib).take m ++ [⟨(at' lib m).name, (at' lib m).name ++ ⟨#[120]⟩, extra⟩]) := Lib.hid (by rw [HTK0, tgOf, if_pos hpar])
              have HOW : Hid (∀ q, (Value.slice a m c).ownBlock = some q → q ≠ w2.heap.size + 1) := Lib.hid (fun q e => by have := (hst.row.lt e).1; omega)
              have HLK : Hid (((tgL extra lib).take m).length = m) := Lib.hid (by rw [List.length_take, tgL_len]; omega)
              go_wp2_with (at_builtin; refine wpl_rows TTg rfl (by decide) rfl (.tmp 66) (.tmp 68) rfl rfl rfl HR.out.1 HR.out.2.1 HR.out.2.2 (by rw [HLK.out]; unfold maxLen; simp; omega) (by rw [HLK.out]; simp; omega) (by simp; omega) ?_; intro a' c' w6 h6 hg6 hn6; have hmm6 := (hg6.block (w2.heap.size + 1) (by simp; omega) (fun e => HOW.out _ e.symm rfl)).trans ((heap_alloc_old _ _ (by simp; omega)).trans hmm2); have fm6 := unfrozen hmm6 0; have cm6 := cell_blk hmm6 0 rfl; have H6 := Lib.hid h6; have HG6 : Hid (World.grownBy _ w6 (Value.slice a m c).ownBlock) := Lib.hid hg6; clear h6 hg6 hn6)
              have hBA : Below wr.heap.size wr (((wr.alloc (.cells #[.string (at' lib m).name, .slice qa (at' lib m).params.length qc, .bool (at' lib m).list, .int .u8 (at' lib m).body.kind, .int .i64 (at' lib m).body.num, .string (at' lib m).body.name, .slice ka (at' lib m).body.kids.length kc] 37)).alloc (.cells #[.string (at' lib m).name, .string ((at' lib m).name ++ ⟨#[120]⟩), .slice ea extra.length ec] 39)).alloc (.cells #[.string (at' lib m).name, .string ((at' lib m).name ++ ⟨#[120]⟩), .slice ea extra.length ec] 39)) := (((Below.refl _ _).alloc (Nat.le_refl _) _).alloc (by simp) _).alloc (by simp; omega) _
              exact ⟨⟨m + 1, _, _, by go_num, by omega, tg_next hst hBA HG6.out (by have := HLK.out; rw [List.length_take] at this; omega) (by rw [HTK.out]; simpa using H6.out)⟩, by simp [intOf]; omega⟩
            · have dp : ((m : Int).tmod 2 == 0) = false := by rw [Int.tmod_eq_emod_of_nonneg (by omega)]; simp; omega
              have dp' : ((m : Int) % 2 == 0) = false := by simp; omega
              have HR := Lib.hid (tg_round hst (.cells #[.string (at' lib m).name, .slice qa (at' lib m).params.length qc, .bool (at' lib m).list, .int .u8 (at' lib m).body.kind, .int .i64 (at' lib m).body.num, .string (at' lib m).body.name, .slice ka (at' lib m).body.kids.length kc] 37) (.cells #[.string (at' lib m).name, .string ((at' lib m).name ++ ⟨#[120]⟩), .slice none 0 0] 39) (t := ⟨(at' lib m).name, (at' lib m).name ++ ⟨#[120]⟩, []⟩) (xa := none) (xc := 0) HEN.out hsn' HPS.out)
              have hmm2 : ((wr.alloc (.cells #[.string (at' lib m).name, .slice qa (at' lib m).params.length qc, .bool (at' lib m).list, .int .u8 (at' lib m).body.kind, .int .i64 (at' lib m).body.num, .string (at' lib m).body.name, .slice ka (at' lib m).body.kids.length kc] 37)).alloc (.cells #[.string (at' lib m).name, .string ((at' lib m).name ++ ⟨#[120]⟩), .slice none 0 0] 39)).heap[w2.heap.size + 1]? = some (.cells #[.slice a m c] 32 (0, 0)) := (heap_alloc_old _ _ (by simp; omega)).trans ((heap_alloc_old _ _ lt1).trans hmm)
              have cm2 := cell_blk hmm2 0 rfl
              have fm2 := unfrozen hmm2 0
              clear cm fm
              have HTK : Hid ((tgL extra lib).take (m + 1) = (tgL extra lib).take m ++ [⟨(at' lib m).name, (at' lib m).name ++ ⟨#[120]⟩, []⟩]) := Lib.hid (by rw [HTK0, tgOf, if_neg hpar])
              have HOW : Hid (∀ q, (Value.slice a m c).ownBlock = some q → q ≠ w2.heap.size + 1) := Lib.hid (fun q e => by have := (hst.row.lt e).1; omega)
              have HLK : Hid (((tgL extra lib).take m).length = m) := Lib.hid (by rw [List.length_take, tgL_len]; omega)
              go_wp2_with (at_builtin; refine wpl_rows TTg rfl (by decide) rfl (.tmp 66) (.tmp 68) rfl rfl rfl HR.out.1 HR.out.2.1 HR.out.2.2 (by rw [HLK.out]; unfold maxLen; simp; omega) (by rw [HLK.out]; simp; omega) (by simp; omega) ?_; intro a' c' w6 h6 hg6 hn6; have hmm6 := (hg6.block (w2.heap.size + 1) (by simp; omega) (fun e => HOW.out _ e.symm rfl)).trans ((heap_alloc_old _ _ (by simp; omega)).trans hmm2); have fm6 := unfrozen hmm6 0; have cm6 := cell_blk hmm6 0 rfl; have H6 := Lib.hid h6; have HG6 : Hid (World.grownBy _ w6 (Value.slice a m c).ownBlock) := Lib.hid hg6; clear h6 hg6 hn6)
              have hBA : Below wr.heap.size wr (((wr.alloc (.cells #[.string (at' lib m).name, .slice qa (at' lib m).params.length qc, .bool (at' lib m).list, .int .u8 (at' lib m).body.kind, .int .i64 (at' lib m).body.num, .string (at' lib m).body.name, .slice ka (at' lib m).body.kids.length kc] 37)).alloc (.cells #[.string (at' lib m).name, .string ((at' lib m).name ++ ⟨#[120]⟩), .slice none 0 0] 39)).alloc (.cells #[.string (at' lib m).name, .string ((at' lib m).name ++ ⟨#[120]⟩), .slice none 0 0] 39)) := (((Below.refl _ _).alloc (Nat.le_refl _) _).alloc (by simp) _).alloc (by simp; omega) _
              exact ⟨⟨m + 1, _, _, by go_num, by omega, tg_next hst hBA HG6.out (by have := HLK.out; rw [List.length_take] at this; omega) (by rw [HTK.out]; simpa using H6.out)⟩, by simp [intOf]; omega⟩
          · obtain rfl : m = lib.length := by omega
            have hlt' : ¬ (lib.length : Int) < (lib.length : Int) := by omega
            have hf := hst.f
            have hmm := hst.m
            have hsz := hst.size
            have hw2r := hst.below
            obtain ⟨f0, f1, f2, f3, f4, f5⟩ := cells6 hf
            have ff := unfrozen hf
            have HTS : Hid (RowsAt TgE Any wr (.slice a (tgL extra lib).length c) (tgL extra lib)) := Lib.hid (by
              have h := hst.row
              rw [← tgL_len extra lib, List.take_length] at h
              exact h.shut (fun _ _ => trivial) (fun _ _ => trivial) (by rw [tgL_len]; unfold maxLen; omega))
            rw [tgL_len] at HTS
            have HCL := Lib.hid (clos_ok HSO.out.2.2 (show extra.length ≤ 3 by omega) hmm HTS.out)
            have HBW := Lib.hid (HBD.out.stays (Stays.of_below hw2r))
            have HGD : Hid (GoodBs lib g.body ∧ sizeBs g.body ≤ 720) := Lib.hid (by
              have e : g = normF lib (at' lib (k % (lib.length : Int)).toNat) := by rw [← hg, at_eq hkm, at_eq (by omega)]; simp [normL]
              have h := norm_good HSO.out.2.2 (i := (k % (lib.length : Int)).toNat) (by omega)
              have h2 := HSO.out.2.1 (k % (lib.length : Int)).toNat (by omega)
              rw [e]; exact ⟨h.1.body, by omega⟩)
            go_wp2_with fail
            refine (compute_C g pa ta ba pc tc bc _ (fstF (tgL extra lib)) _ HBW.out HCL.out (by have := HGD.out.2; omega)).mono ?_
            rintro e w3 ⟨ka, kn, kc, rfl, hk3, hb3⟩
            have HK3 := Lib.hid hk3
            have hf3 := (heap_alloc_old w3 (.cells #[.int .u8 57, .int .i64 0, .string ⟨#[]⟩, .slice ka kn kc] 35) (by have := hb3.size; omega)).trans (blk_below hb3 hf)
            clear hk3 f0 f1 f2 f3 f4 f5 ff
            obtain ⟨f0, f1, f2, f3, f4, f5⟩ := cells6 hf3
            have ff := unfrozen hf3
            go_wp2_with fail
            refine (computeNil_C g pa ta ba pc tc bc _).mono ?_
            rintro e w4 ⟨rfl, hb4⟩
            have hW3 : Below wr.heap.size wr (w3.alloc (.cells #[.int .u8 57, .int .i64 0, .string ⟨#[]⟩, .slice ka kn kc] 35)) := bel_alloc hb3
            have hn4 := blk_below hb4 (blk_new (w := w3) (x := .cells #[.int .u8 57, .int .i64 0, .string ⟨#[]⟩, .slice ka kn kc] 35) rfl)
            have hf4 := blk_below hb4 hf3
            have hm4 := blk_below hb4 (blk_below hW3 hmm)
            have hB4 : Below wr.heap.size wr w4 := hW3.trans (hb4.mono hW3.size)
            have hB5 : Below wr.heap.size wr (w4.alloc (.cells #[.int .u8 0, .int .i64 0, .string ⟨#[]⟩, .slice none 0 0] 35)) := bel_alloc hB4
            have hb45 : Below w4.heap.size w4 (w4.alloc (.cells #[.int .u8 0, .int .i64 0, .string ⟨#[]⟩, .slice none 0 0] 35)) := (Below.refl _ _).alloc (Nat.le_refl _) _
            have HS : Hid (∀ w1, Below (w4.alloc (.cells #[.int .u8 0, .int .i64 0, .string ⟨#[]⟩, .slice none 0 0] 35)).heap.size (w4.alloc (.cells #[.int .u8 0, .int .i64 0, .string ⟨#[]⟩, .slice none 0 0] 35)) w1 → (w1.cell? ⟨w3.heap.size, 0, none⟩ = some (.int .u8 57) ∧ w1.cell? ⟨w3.heap.size, 1, none⟩ = some (.int .i64 0) ∧ w1.cell? ⟨w3.heap.size, 2, none⟩ = some (.string ⟨#[]⟩) ∧ w1.cell? ⟨w3.heap.size, 3, none⟩ = some (.slice ka kn kc)) ∧ (w1.cell? ⟨w4.heap.size, 0, none⟩ = some (.int .u8 0) ∧ w1.cell? ⟨w4.heap.size, 1, none⟩ = some (.int .i64 0) ∧ w1.cell? ⟨w4.heap.size, 2, none⟩ = some (.string ⟨#[]⟩) ∧ w1.cell? ⟨w4.heap.size, 3, none⟩ = some (.slice none 0 0)) ∧ w1.cell? ⟨w2.heap.size, 4, none⟩ = some (.slice ba g.body.length bc) ∧ w1.cell? ⟨w2.heap.size + 1, 0, none⟩ = some (.slice a lib.length c)) := Lib.hid (fun w1 hw => ⟨cells4 (blk_below hw (blk_below hb45 hn4)), cells4 (blk_below hw (blk_new rfl)), (cells6 (blk_below hw (blk_below hb45 hf4))).2.2.2.2.1, cell_blk (blk_below hw (blk_below hb45 hm4)) 0 rfl⟩)
            have HNN : Hid (NdAt Any w4 (.agg #[.int .u8 57, .int .i64 0, .string ⟨#[]⟩, .slice ka kn kc]) (blockN (bindsN (refF (tgL extra lib)) g.body))) := Lib.hid (by
              have e := bindsN_fst HSO.out.2.2 extra g.body
              rw [e] at HK3
              exact ((nd_node (k := 57) (s := ⟨#[]⟩) HK3.out (by omega) (Nat.zero_le _)).stays (A' := Any) ⟨Nat.le_refl _, fun _ _ _ => ⟨rfl, trivial⟩⟩).stays (Stays.of_below (((Below.refl _ _).alloc (Nat.le_refl _) _).trans (hb4.mono (by simp)))))
            have HBD5 : Hid (BdsAt Any (w4.alloc (.cells #[.int .u8 0, .int .i64 0, .string ⟨#[]⟩, .slice none 0 0] 35)) (.slice ba g.body.length bc) g.body) := Lib.hid (HBW.out.stays (Stays.of_below hB5))
            have HT5 : Hid (RowsAt TgE Any (w4.alloc (.cells #[.int .u8 0, .int .i64 0, .string ⟨#[]⟩, .slice none 0 0] 35)) (.slice a lib.length c) (tgL extra lib)) := Lib.hid (HTS.out.stays (Stays.of_below hB5))
            have HN5 : Hid (NdAt Any (w4.alloc (.cells #[.int .u8 0, .int .i64 0, .string ⟨#[]⟩, .slice none 0 0] 35)) (.agg #[.int .u8 57, .int .i64 0, .string ⟨#[]⟩, .slice ka kn kc]) (blockN (bindsN (refF (tgL extra lib)) g.body))) := Lib.hid (HNN.out.stays (Stays.of_below hb45))
            have HTG := Lib.hid (tg_ok HSO.out.2.2 (show extra.length ≤ 3 by omega))
            have htl := tgL_len extra lib
            have HBG : Hid (Below w.heap.size w (w4.alloc (.cells #[.int .u8 0, .int .i64 0, .string ⟨#[]⟩, .slice none 0 0] 35))) := Lib.hid (hb1.trans ((hb2.trans ((hw2r.trans (hB5.mono hw2r.size)).mono hb2.size)).mono hb1.size))
            clear hf hmm f0 f1 f2 f3 f4 f5 ff hf3 hf4 hm4 hn4 hb3 hb4 hb45 hW3 hB4
            have HC1 : Hid (∀ w1, Below (w4.alloc (.cells #[.int .u8 0, .int .i64 0, .string ⟨#[]⟩, .slice none 0 0] 35)).heap.size (w4.alloc (.cells #[.int .u8 0, .int .i64 0, .string ⟨#[]⟩, .slice none 0 0] 35)) w1 → Calls Tryz.prog 15 #[.slice ba g.body.length bc] w1 (fun e w' => ∃ a c, e = .returned (.slice a g.body.length c) ∧ BdsAt Any w' (.slice a g.body.length c) g.body ∧ Below w1.heap.size w1 w')) := Lib.hid (fun w1 hw => (lbinds_ok 90000 (Nat.le_refl _) g.body _ Any _ (by have := HGD.out.2; omega) (HBD5.out.stays (Stays.of_below hw))).mono fun e w' ⟨a, c, he, h, hb⟩ => ⟨a, c, he, h.stays ⟨Nat.le_refl _, fun _ _ _ => ⟨rfl, trivial⟩⟩, hb⟩)
            have HC2 : Hid (∀ w1 bv, Below (w4.alloc (.cells #[.int .u8 0, .int .i64 0, .string ⟨#[]⟩, .slice none 0 0] 35)).heap.size (w4.alloc (.cells #[.int .u8 0, .int .i64 0, .string ⟨#[]⟩, .slice none 0 0] 35)) w1 → BdsAt Any w1 bv g.body → Calls Tryz.prog 14 #[bv, .slice a lib.length c] w1 (fun e w' => ∃ a n c, e = .returned (.agg #[.int .u8 57, .int .i64 0, .string ⟨#[]⟩, .slice a n c]) ∧ NdAt Any w' (.agg #[.int .u8 57, .int .i64 0, .string ⟨#[]⟩, .slice a n c]) (blockN (bindsN (refF (tgL extra lib)) g.body)) ∧ Below w1.heap.size w1 w')) := Lib.hid (fun w1 bv hw hb => by
              have h := rblock_ok lib (tgL extra lib) HTG.out 90000 (Nat.le_refl _) g.body bv a c w1 (by have := HGD.out.2; omega) HGD.out.1 hb (by rw [htl]; exact HT5.out.stays (Stays.of_below hw))
              rw [htl] at h
              exact h.mono fun e w' ⟨a, n, c, he, h, hb⟩ => ⟨a, n, c, he, h.stays ⟨Nat.le_refl _, fun _ _ _ => ⟨rfl, trivial⟩⟩, hb⟩)
            have HC3 : Hid (∀ w1 v, Below (w4.alloc (.cells #[.int .u8 0, .int .i64 0, .string ⟨#[]⟩, .slice none 0 0] 35)).heap.size (w4.alloc (.cells #[.int .u8 0, .int .i64 0, .string ⟨#[]⟩, .slice none 0 0] 35)) w1 → NdAt Any w1 v (blockN (bindsN (refF (tgL extra lib)) g.body)) → Calls Tryz.prog 13 #[.agg #[.int .u8 57, .int .i64 0, .string ⟨#[]⟩, .slice ka kn kc], v] w1 (fun e w' => e = .returned (.bool true) ∧ Below w1.heap.size w1 w')) := Lib.hid (fun w1 v hw hv => refEqual_any _ _ _ Any Any _ (HN5.out.stays (Stays.of_below hw)) hv)
            have HC4 : Hid (∀ w1, Calls Tryz.prog 13 #[.agg #[.int .u8 0, .int .i64 0, .string ⟨#[]⟩, .slice none 0 0], .agg #[.int .u8 0, .int .i64 0, .string ⟨#[]⟩, .slice none 0 0]] w1 (fun e w' => e = .returned (.bool true) ∧ Below w1.heap.size w1 w')) := Lib.hid (fun w1 => refEqual_any _ _ _ Any Any _ (nd_zero _ _) (nd_zero _ _))
            go_wp2
            generalize hW5 : (w4.alloc (.cells #[.int .u8 0, .int .i64 0, .string ⟨#[]⟩, .slice none 0 0] 35)) = W5 at *
            obtain ⟨⟨s0, s1, s2, s3⟩, ⟨z0, z1, z2, z3⟩, s5, s6⟩ := HS.out W5 (Below.refl _ _)
            go_region_held3 (fun w1 => (w1.cell? ⟨w3.heap.size, 0, none⟩ = some (.int .u8 57) ∧ w1.cell? ⟨w3.heap.size, 1, none⟩ = some (.int .i64 0) ∧ w1.cell? ⟨w3.heap.size, 2, none⟩ = some (.string ⟨#[]⟩) ∧ w1.cell? ⟨w3.heap.size, 3, none⟩ = some (.slice ka kn kc)) ∧ (w1.cell? ⟨w4.heap.size, 0, none⟩ = some (.int .u8 0) ∧ w1.cell? ⟨w4.heap.size, 1, none⟩ = some (.int .i64 0) ∧ w1.cell? ⟨w4.heap.size, 2, none⟩ = some (.string ⟨#[]⟩) ∧ w1.cell? ⟨w4.heap.size, 3, none⟩ = some (.slice none 0 0)) ∧ w1.cell? ⟨w2.heap.size, 4, none⟩ = some (.slice ba g.body.length bc) ∧ w1.cell? ⟨w2.heap.size + 1, 0, none⟩ = some (.slice a lib.length c))
              (with_reducible exact HS.out _ (by (repeat (with_reducible first | exact Below.refl _ _ | refine bel_drew ?_ | refine bel_alloc ?_ | (apply bel_step; focus assumption)))))
              (first
              | (go_at_call 15; refine (HC1.out _ (by (repeat (with_reducible first | exact Below.refl _ _ | refine bel_drew ?_ | refine bel_alloc ?_ | (apply bel_step; focus assumption))))).mono ?_; rintro e w6 ⟨a6, c6, rfl, hbd6, hb6⟩; have HBD6 := Lib.hid hbd6; clear hbd6)
              | (go_at_call 14; refine (HC2.out _ _ (by (repeat (with_reducible first | exact Below.refl _ _ | refine bel_drew ?_ | refine bel_alloc ?_ | (apply bel_step; focus assumption)))) (HBD6.out.stays (Stays.of_below (by (repeat (with_reducible first | exact Below.refl _ _ | refine bel_drew ?_ | refine bel_alloc ?_ | (apply bel_step; focus assumption))))))).mono ?_; rintro e w7 ⟨a7, n7, c7, rfl, hnd7, hb7⟩; have HND7 := Lib.hid hnd7; clear hnd7)
              | (go_at_call 13; with_reducible refine (HC4.out _).mono ?_; rintro e w9 ⟨rfl, hb9⟩)
              | (go_at_call 13; with_reducible refine (HC3.out _ _ (by (repeat (with_reducible first | exact Below.refl _ _ | refine bel_drew ?_ | refine bel_alloc ?_ | (apply bel_step; focus assumption)))) (HND7.out.stays (Stays.of_below (by (repeat (with_reducible first | exact Below.refl _ _ | refine bel_drew ?_ | refine bel_alloc ?_ | (apply bel_step; focus assumption))))))).mono ?_; rintro e w8 ⟨rfl, hb8⟩)
              | fail)
            all_goals
              have hB59 : Below W5.heap.size W5 w9 := (by (repeat (with_reducible first | exact Below.refl _ _ | refine bel_drew ?_ | refine bel_alloc ?_ | (apply bel_step; focus assumption))))
              go_wp2
              go_ret
              exact ⟨rfl, HBG.out.trans (hB59.mono HBG.out.size)⟩
end Go.Proofs.YtehmmokkjojggabGreatDoor
