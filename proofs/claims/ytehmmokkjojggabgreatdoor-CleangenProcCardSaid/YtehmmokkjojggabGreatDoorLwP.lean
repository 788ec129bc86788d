/- The law CleangenProc. -/
import Derived.Test.YtehmmokkjojggabGreatDoorPPrc
import Derived.Test.YtehmmokkjojggabGreatDoorRefP
namespace Go.Proofs.YtehmmokkjojggabGreatDoor
set_option linter.unusedVariables false
set_option linter.unusedSimpArgs false
open Go.RowKit

theorem at_map_norm (lib : List Fn) {i : Nat} (hi : i < lib.length) : at' (normL lib) i = normF lib (at' lib i) := by
  simp [at', normL, List.getD_eq_getElem?_getD, List.getElem?_map, List.getElem?_eq_getElem hi]
theorem body_proc (g : AFn) : localsN g.temps (blockN (bodyL (bindsN selfF g.body) g.list g.result)) = procB g := by
  have : copyN g.list g.result = resultN g := by unfold copyN resultN; rfl
  unfold procB bodyL
  rw [this]
/-- what Proc leaves, in one form -/
def PrFacts (g : AFn) (w : World) (pn : ByteArray) (xa : Option Addr) (xl xc : Nat) (bk bn : Int) (bs : ByteArray) (ya : Option Addr) (yn yc : Nat) (er : Int) : Prop :=
  (80 < depthN (procB g) → er = 19 ∧ pn = ⟨#[]⟩ ∧ yn = 0) ∧ (¬ 80 < depthN (procB g) → (2000 < sizeN (procB g) ∨ 8 < (paramsN g).length) → er = 5 ∧ pn = ⟨#[]⟩ ∧ yn = 0) ∧
  (¬ 80 < depthN (procB g) → ¬ (2000 < sizeN (procB g) ∨ 8 < (paramsN g).length) → er = 0 ∧ pn = g.name ∧ xl = (paramsN g).length ∧ RowsAt DclE Any w (.slice xa xl xc) (paramsN g) ∧ NdAt Any w (.agg #[.int .u8 bk, .int .i64 bn, .string bs, .slice ya yn yc]) (procB g))
theorem PrFacts.below {g : AFn} {w w' : World} {pn : ByteArray} {xa : Option Addr} {xl xc : Nat} {bk bn : Int} {bs : ByteArray} {ya : Option Addr} {yn yc : Nat} {er : Int} (h : PrFacts g w pn xa xl xc bk bn bs ya yn yc er) (hb : Below w.heap.size w w') : PrFacts g w' pn xa xl xc bk bn bs ya yn yc er :=
  ⟨h.1, h.2.1, fun a b => by obtain ⟨h1, h2, h3, h4, h5⟩ := h.2.2 a b; exact ⟨h1, h2, h3, h4.stays (Stays.of_below hb), h5.stays (Stays.of_below hb)⟩⟩
theorem pr_facts {g : AFn} {w : World} {e : Ending} {w' : World} (h : ProcPost g w e w') : ∃ (pn : ByteArray) (xa : Option Addr) (xl xc : Nat) (bk bn : Int) (bs : ByteArray) (ya : Option Addr) (yn yc : Nat) (er : Int), e = .returned (.tuple #[.agg #[.string pn, .slice xa xl xc, .int .u8 bk, .int .i64 bn, .string bs, .slice ya yn yc], .int .i64 er]) ∧ PrFacts g w' pn xa xl xc bk bn bs ya yn yc er ∧ Below w.heap.size w w' := by
  obtain ⟨hb, h1, h2, h3⟩ := h
  by_cases q1 : 80 < depthN (procB g)
  · exact ⟨_, _, _, _, _, _, _, _, _, _, _, h1 q1, ⟨fun _ => ⟨rfl, rfl, rfl⟩, fun a => absurd q1 a, fun a => absurd q1 a⟩, hb⟩
  · by_cases q2 : 2000 < sizeN (procB g) ∨ 8 < (paramsN g).length
    · exact ⟨_, _, _, _, _, _, _, _, _, _, _, h2 q1 q2, ⟨fun a => absurd a q1, fun _ _ => ⟨rfl, rfl, rfl⟩, fun _ b => absurd q2 b⟩, hb⟩
    · obtain ⟨a, c, ka, kn, kc, he, hr, hn⟩ := h3 q1 q2
      exact ⟨_, _, _, _, _, _, _, _, _, _, _, he, ⟨fun a => absurd a q1, fun _ b => absurd b q2, fun _ _ => ⟨rfl, rfl, rfl, hr.stays ⟨Nat.le_refl _, fun _ _ _ => ⟨rfl, trivial⟩⟩, hn.stays ⟨Nat.le_refl _, fun _ _ _ => ⟨rfl, trivial⟩⟩⟩⟩, hb⟩
theorem dcl_at {g : AFn} {w : World} {va : Option Addr} {n vc : Nat} (h : RowsAt DclE Any w (.slice va n vc) (paramsN g)) {k : Nat} (hk : k < g.params.length) :
    ∃ b off, va = some ⟨b, off, none⟩ ∧ b < w.heap.size ∧ w.cell? ⟨b, off + k * 3, none⟩ = some (.string (at' g.params k).name) ∧ w.cell? ⟨b, off + k * 3 + 1, none⟩ = some (.int .u8 (if (at' g.params k).list then 3 else 1)) ∧ w.cell? ⟨b, off + k * 3 + 2, none⟩ = some (.int .i64 0) := by
  have hl : k < (paramsN g).length := by simp [paramsN]; omega
  have he : at' (paramsN g) k = dclN (at' g.params k).name (at' g.params k).list := by
    rw [at_eq hl, at_eq hk]
    simp only [paramsN]
    rw [List.getElem_append_left (by simpa using hk), List.getElem_map]
  obtain ⟨b, off, cap, cs, e, hb, _, _, hcl, hC⟩ := h.at hl
  simp only [Value.slice.injEq] at e
  obtain ⟨rfl, -, rfl⟩ := e
  have c0 := hcl 0 (by decide)
  have c1 := hcl 1 (by decide)
  have c2 := hcl 2 (by decide)
  rw [he] at hC
  obtain ⟨e0, e1, e2, _⟩ := hC
  rw [e0] at c0
  rw [e1] at c1
  rw [e2] at c2
  exact ⟨b, off, rfl, hb, c0, c1, c2⟩
theorem dcl_last {g : AFn} {w : World} {va : Option Addr} {n vc : Nat} (h : RowsAt DclE Any w (.slice va n vc) (paramsN g)) :
    ∃ b off, va = some ⟨b, off, none⟩ ∧ b < w.heap.size ∧ w.cell? ⟨b, off + g.params.length * 3, none⟩ = some (.string ⟨#[111, 117, 116]⟩) ∧ w.cell? ⟨b, off + g.params.length * 3 + 1, none⟩ = some (.int .u8 (if g.list then 3 else 1)) ∧ w.cell? ⟨b, off + g.params.length * 3 + 2, none⟩ = some (.int .i64 0) := by
  have hl : g.params.length < (paramsN g).length := by simp [paramsN]
  have he : at' (paramsN g) g.params.length = dclN outS g.list := by
    rw [at_eq hl]
    simp only [paramsN]
    rw [List.getElem_append_right (by simp)]
    simp
  obtain ⟨b, off, cap, cs, e, hb, _, _, hcl, hC⟩ := h.at hl
  simp only [Value.slice.injEq] at e
  obtain ⟨rfl, -, rfl⟩ := e
  have c0 := hcl 0 (by decide)
  have c1 := hcl 1 (by decide)
  have c2 := hcl 2 (by decide)
  rw [he] at hC
  obtain ⟨e0, e1, e2, _⟩ := hC
  rw [e0] at c0
  rw [e1] at c1
  rw [e2] at c2
  exact ⟨b, off, rfl, hb, c0, c1, c2⟩
theorem dcl_any {g : AFn} {w : World} {va : Option Addr} {n vc : Nat} (h : RowsAt DclE Any w (.slice va n vc) (paramsN g)) {k : Nat} (hl : k < (paramsN g).length) :
    ∃ b off, va = some ⟨b, off, none⟩ ∧ b < w.heap.size ∧ w.cell? ⟨b, off + k * 3, none⟩ = some (.string (at' (paramsN g) k).name) ∧ w.cell? ⟨b, off + k * 3 + 1, none⟩ = some (.int .u8 (at' (paramsN g) k).kind) ∧ w.cell? ⟨b, off + k * 3 + 2, none⟩ = some (.int .i64 0) := by
  obtain ⟨b, off, cap, cs, e, hb, _, _, hcl, hC⟩ := h.at hl
  simp only [Value.slice.injEq] at e
  obtain ⟨rfl, -, rfl⟩ := e
  have c0 := hcl 0 (by decide)
  have c1 := hcl 1 (by decide)
  have c2 := hcl 2 (by decide)
  obtain ⟨e0, e1, e2, _⟩ := hC
  rw [e0] at c0
  rw [e1] at c1
  rw [e2] at c2
  exact ⟨b, off, rfl, hb, c0, c1, c2⟩
/-- behind the reference's body -/
def CutW (g : AFn) (pa ta ba : Option Addr) (pc tc bc : Nat) (w2 : World) (s : Value) (wx : World) : Prop :=
  ∃ (gb : Nat) (a : Option Addr) (n c : Nat), s = .pointer (some ⟨gb, 0, none⟩) ∧ wx.heap[gb]? = some (.cells #[.int .u8 57, .int .i64 0, .string ⟨#[]⟩, .slice a n c] 35 (0, 0)) ∧ NdAt Any wx (.agg #[.int .u8 57, .int .i64 0, .string ⟨#[]⟩, .slice a n c]) (procB g) ∧ wx.heap[w2.heap.size]? = some (.cells #[.string g.name, .slice pa g.params.length pc, .bool g.list, .slice ta g.temps.length tc, .slice ba g.body.length bc, .string g.result] 31 (0, 0)) ∧ Below w2.heap.size w2 wx
theorem cutW_new {g : AFn} {pa ta ba : Option Addr} {pc tc bc : Nat} {w2 w9 : World} {A : Nat → Prop} {a : Option Addr} {n c : Nat} (hk : NdAt A w9 (.agg #[.int .u8 57, .int .i64 0, .string ⟨#[]⟩, .slice a n c]) (procB g)) (hf : w9.heap[w2.heap.size]? = some (.cells #[.string g.name, .slice pa g.params.length pc, .bool g.list, .slice ta g.temps.length tc, .slice ba g.body.length bc, .string g.result] 31 (0, 0))) (hb : Below w2.heap.size w2 w9) :
    CutW g pa ta ba pc tc bc w2 (.pointer (some ⟨w9.heap.size, 0, none⟩)) (w9.alloc (.cells #[.int .u8 57, .int .i64 0, .string ⟨#[]⟩, .slice a n c] 35)) :=
  ⟨w9.heap.size, a, n, c, rfl, at_new0 _ _, hk.stays ⟨(bel_alloc (Below.refl _ _)).size, fun b hb _ => ⟨(bel_alloc (Below.refl w9.heap.size w9)).block b hb, trivial⟩⟩, blk_alloc hf, bel_alloc hb⟩
theorem cutW_set {g : AFn} {pa ta ba : Option Addr} {pc tc bc : Nat} {w2 wx : World} {A : Nat → Prop} {gb : Nat} {a : Option Addr} {n c : Nat} (hk : NdAt A wx (.agg #[.int .u8 57, .int .i64 0, .string ⟨#[]⟩, .slice a n c]) (procB g)) (hz : wx.heap[gb]? = some (.cells #[.int .u8 0, .int .i64 0, .string ⟨#[]⟩, .slice none 0 0] 35)) (hne : ∀ b, b < wx.heap.size → A b → b ≠ gb) (hg : w2.heap.size + 1 ≤ gb) (hf : wx.heap[w2.heap.size]? = some (.cells #[.string g.name, .slice pa g.params.length pc, .bool g.list, .slice ta g.temps.length tc, .slice ba g.body.length bc, .string g.result] 31 (0, 0))) (hb : Below w2.heap.size w2 wx) :
    CutW g pa ta ba pc tc bc w2 (.pointer (some ⟨gb, 0, none⟩)) ((((wx.setCell ⟨gb, 0, none⟩ (.int .u8 57)).setCell ⟨gb, 1, none⟩ (.int .i64 0)).setCell ⟨gb, 2, none⟩ (.string ⟨#[]⟩)).setCell ⟨gb, 3, none⟩ (.slice a n c)) := by
  have hK4 := (((keeps_set wx gb 0 (.int .u8 57)).same (keeps_set _ gb 1 (.int .i64 0))).same (keeps_set _ gb 2 (.string ⟨#[]⟩))).same (keeps_set _ gb 3 (.slice a n c))
  exact ⟨gb, a, n, c, rfl, set4 hz _ _ _ _, hk.stays ⟨hK4.size, fun b hb a => ⟨hK4.block b hb (hne b hb a), trivial⟩⟩, blk_sets4 hf (by omega), bel_sets4 hb (by omega)⟩
set_option maxRecDepth 100000 in
set_option maxHeartbeats 12800000 in
theorem walk_cleangenProc (w : World) (ht : Tab w) (lv : Value) (lib : List Fn) (hl : FnsAt Any w lv lib) (k : Int) (hk : 0 ≤ k ∧ k ≤ 255) :
    Calls Tryz.prog 4 #[lv, .int .u8 k] w fun e w' => e = .returned (.bool true) ∧ Below w.heap.size w w' := by
  obtain ⟨hll, la, lc, rfl⟩ := hl.form
  have HL := Lib.hid hl
  have HNM := Lib.hid (normal_any _ lib Any w hl ht)
  have HT := Lib.hid ht
  clear hl ht
  go_enter Tryz.func4, Tryz.ntmps4
  go_wp2_with fail
  refine HNM.out.mono ?_
  intro e w1 hp1
  have hb1 := hp1.1
  have HAW : Hid (∀ w', Below w1.heap.size w1 w' → Calls Tryz.prog 10 #[] w' fun e w2 => e = .returned (.bool true) ∧ Below w'.heap.size w' w2) := Lib.hid (fun w' h => awake_any w' ((HT.out.below hb1).below h))
  rcases hp1.2 with ⟨xa, xn, xc, rfl⟩ | ⟨xa, xc, rfl, hso, hafn⟩
  · clear hp1
    go_wp2_with (go_at_call 10; refine (HAW.out _ (by first | exact Below.refl _ _ | assumption)).mono ?_; rintro e w2 ⟨rfl, hb2⟩)
    go_ret
    exact ⟨rfl, hb1.trans ((‹Below w1.heap.size w1 _›.trans (hb2.mono ‹Below w1.heap.size w1 _›.size)).mono hb1.size)⟩
  · have HSO := Lib.hid hso
    have HAF := Lib.hid hafn
    clear hp1 hso hafn
    by_cases h0 : (normL lib).length = 0
    · have d0 : (((normL lib).length : Int) == 0) = true := by simp [h0]
      go_wp2_with (go_at_call 10; refine (HAW.out _ (by first | exact Below.refl _ _ | assumption)).mono ?_; rintro e w2 ⟨rfl, hb2⟩)
      go_ret
      exact ⟨rfl, hb1.trans ((‹Below w1.heap.size w1 _›.trans (hb2.mono ‹Below w1.heap.size w1 _›.size)).mono hb1.size)⟩
    · have d0 : (((normL lib).length : Int) == 0) = false := by simp [h0]
      · skip
        have hnlen : (normL lib).length = lib.length := by simp [normL]
        have hkm : (k % (lib.length : Int)).toNat < (normL lib).length := by
          have := Int.emod_lt_of_pos k (b := (lib.length : Int)) (by omega)
          omega
        have hkn : (0 : Int) ≤ k % (lib.length : Int) ∧ k % (lib.length : Int) < (lib.length : Int) := ⟨Int.emod_nonneg _ (by omega), Int.emod_lt_of_pos k (by omega)⟩
        have d0' : ((lib.length : Int) == 0) = false := by rw [← hnlen]; exact d0
        have ht : k.tmod (lib.length : Int) = k % (lib.length : Int) := Int.tmod_eq_emod_of_nonneg hk.1
        have hl8 := HSO.out.1
        have hi : (k % (lib.length : Int)).toNat < lib.length := by have := hkn; omega
        have hat : at' (normL lib) (k % (lib.length : Int)).toNat = normF lib (at' lib (k % (lib.length : Int)).toNat) := by
          have e := at_map_norm lib hi
          exact e
        have HGD : Hid (GoodBs lib (at' (normL lib) (k % (lib.length : Int)).toNat).body ∧ sizeBs (at' (normL lib) (k % (lib.length : Int)).toNat).body ≤ 10000 ∧ (at' (normL lib) (k % (lib.length : Int)).toNat).temps.length ≤ 4000 ∧ (at' (normL lib) (k % (lib.length : Int)).toNat).params.length ≤ 8) := Lib.hid (by
          rw [hat]
          obtain ⟨g1, g2, g3⟩ := norm_good HSO.out.2.2 hi
          have hb := HSO.out.2.1 _ hi
          exact ⟨g1.body, by omega, by omega, g1.plen⟩)
        clear hi hat
        go_wp2_with (go_at_call 10; refine (HAW.out _ (by first | exact Below.refl _ _ | assumption)).mono ?_; rintro e w2 ⟨rfl, hb2⟩; obtain ⟨b, off, cap, pa, pc, ta, tc, ba, bc, he, hb, hcap, c0, c1, c2, c3, c4, c5, hps, htm, hbd, hsn, hsr⟩ := afn_at (HAF.out.stays (Stays.of_below hb2)) hkm; simp only [Value.slice.injEq] at he; obtain ⟨rfl, -, rfl⟩ := he; have HBD := Lib.hid hbd; have HPS := Lib.hid hps; have HTM := Lib.hid htm; have HSR := Lib.hid hsr; clear hps htm hbd hsr; generalize hg : at' (normL lib) (k % (lib.length : Int)).toNat = g at c0 c1 c2 c3 c4 c5 hsn HBD HPS HTM HSR HGD; rw [hnlen] at hcap)
        obtain ⟨W, hW⟩ : ∃ W, W = w2.alloc (.cells #[.string g.name, .slice pa g.params.length pc, .bool g.list, .slice ta g.temps.length tc, .slice ba g.body.length bc, .string g.result] 31) := ⟨_, rfl⟩
        have hB2 : Below w2.heap.size w2 W := by subst hW; exact bel_alloc (Below.refl _ _)
        have HB2W := Lib.hid hB2
        have HFX : Hid (W.heap[w2.heap.size]? = some (.cells #[.string g.name, .slice pa g.params.length pc, .bool g.list, .slice ta g.temps.length tc, .slice ba g.body.length bc, .string g.result] 31 (0, 0))) := Lib.hid (by subst hW; exact at_new0 _ _)
        have HWS : Hid (W.heap.size = w2.heap.size + 1) := Lib.hid (by subst hW; simp)
        have HBG : Hid (Below w.heap.size w w2) := Lib.hid (hb1.trans (hb2.mono hb1.size))
        have HFF : Hid (∀ w1, Below W.heap.size W w1 → w1.cell? ⟨w2.heap.size, 0, none⟩ = some (.string g.name) ∧ w1.cell? ⟨w2.heap.size, 1, none⟩ = some (.slice pa g.params.length pc) ∧ w1.cell? ⟨w2.heap.size, 2, none⟩ = some (.bool g.list) ∧ w1.cell? ⟨w2.heap.size, 3, none⟩ = some (.slice ta g.temps.length tc) ∧ w1.cell? ⟨w2.heap.size, 4, none⟩ = some (.slice ba g.body.length bc) ∧ w1.cell? ⟨w2.heap.size, 5, none⟩ = some (.string g.result)) := Lib.hid (fun w1 h => cells6 (blk_below h HFX.out))
        have HC1 : Hid (∀ w1, Below W.heap.size W w1 → Calls Tryz.prog 15 #[.slice ba g.body.length bc] w1 (fun e w' => ∃ a c, e = .returned (.slice a g.body.length c) ∧ BdsAt Any w' (.slice a g.body.length c) g.body ∧ Below w1.heap.size w1 w')) := Lib.hid (fun w1 hw => (lbinds_ok 90000 (Nat.le_refl _) g.body _ Any _ (by have := HGD.out.2.1; omega) ((HBD.out.stays (Stays.of_below hB2)).stays (Stays.of_below hw))).mono fun e w' ⟨a, c, he, h, hb⟩ => ⟨a, c, he, h.stays ⟨Nat.le_refl _, fun _ _ _ => ⟨rfl, trivial⟩⟩, hb⟩)
        have HC2 : Hid (∀ w1 bv, Below W.heap.size W w1 → BdsAt Any w1 bv g.body → Calls Tryz.prog 14 #[bv, .slice none 0 0] w1 (fun e w' => ∃ a c, e = .returned (.agg #[.int .u8 57, .int .i64 0, .string ⟨#[]⟩, .slice a (bindsN selfF g.body).length c]) ∧ NdAt (fun b => w1.heap.size ≤ b ∧ b < w'.heap.size) w' (.agg #[.int .u8 57, .int .i64 0, .string ⟨#[]⟩, .slice a (bindsN selfF g.body).length c]) (blockN (bindsN selfF g.body)) ∧ Below w1.heap.size w1 w')) := Lib.hid (fun w1 bv hw hb => by
          have h := rblock_ok lib [] (fun nm hn => ⟨by simp [tgF], hn⟩) 90000 (Nat.le_refl _) g.body bv none 0 w1 (by have := HGD.out.2.1; omega) HGD.out.1 hb (RowsAt.nil TgE _ _)
          exact h.mono fun e w' ⟨a, n, c, he, h, hb⟩ => by
            have hk := ndKids h
            obtain ⟨_, a', c', e'⟩ := hk.form
            simp only [Value.slice.injEq] at e'
            obtain ⟨rfl, rfl, rfl⟩ := e'
            exact ⟨a, c, he, (nd_node (k := 57) (s := ⟨#[]⟩) hk (by omega) (Nat.zero_le _)).stays ⟨Nat.le_refl _, fun b hb a => ⟨rfl, a, hb⟩⟩, hb⟩)
        have HC3 : Hid (∀ (w1 : World) (B : Nat → Prop) (ka : Option Addr) (kc : Nat), Below W.heap.size W w1 → NdAt B w1 (.agg #[.int .u8 57, .int .i64 0, .string ⟨#[]⟩, .slice ka (bindsN selfF g.body).length kc]) (blockN (bindsN selfF g.body)) → Calls Tryz.prog 16 #[.agg #[.int .u8 57, .int .i64 0, .string ⟨#[]⟩, .slice ka (bindsN selfF g.body).length kc], .slice ta g.temps.length tc, .bool g.list, .string g.result] w1 (fun e w' => ∃ a n c, e = .returned (.agg #[.int .u8 57, .int .i64 0, .string ⟨#[]⟩, .slice a n c]) ∧ NdAt (fun b => (B b ∨ w1.heap.size ≤ b) ∧ b < w'.heap.size) w' (.agg #[.int .u8 57, .int .i64 0, .string ⟨#[]⟩, .slice a n c]) (procB g) ∧ Below w1.heap.size w1 w')) := Lib.hid (fun w1 B ka kc hw hn => by
          have hlc : (bindsN selfF g.body).length ≤ 20000 := by have := bindsN_len selfF g.body; have := len_sizeBs g.body; have := HGD.out.2.1; omega
          have hcs := cs_binds lib selfF (fun _ => by simp [selfF]) g.body HGD.out.1 HGD.out.2.1
          have h := body_R (bindsN selfF g.body) g.temps g.list g.result ka ta kc tc B w1 hn ((HTM.out.stays (Stays.of_below hB2)).stays (Stays.of_below hw)) HSR.out hlc (by have := HGD.out.2.2.1; omega) (Lib.hid (rinv_list _ (fun s hs => rinv_cs (hcs s hs)) (by omega)))
          refine h.mono fun e w' ⟨a, n, c, he, h, hb⟩ => ⟨a, n, c, he, ?_, hb⟩
          rw [body_proc] at h
          exact h.stays ⟨Nat.le_refl _, fun b hb a => ⟨rfl, a, hb⟩⟩)
        clear hB2 c0 c1 c2 c3 c4 c5
        subst hW
        go_wp2
        generalize w2.alloc (.cells #[.string g.name, .slice pa g.params.length pc, .bool g.list, .slice ta g.temps.length tc, .slice ba g.body.length bc, .string g.result] 31) = W at *
        go_cut [8] (fun s wx => CutW g pa ta ba pc tc bc w2 s wx)
        case first =>
          go_region_held3 (fun w1 => w1.cell? ⟨w2.heap.size, 0, none⟩ = some (.string g.name) ∧ w1.cell? ⟨w2.heap.size, 1, none⟩ = some (.slice pa g.params.length pc) ∧ w1.cell? ⟨w2.heap.size, 2, none⟩ = some (.bool g.list) ∧ w1.cell? ⟨w2.heap.size, 3, none⟩ = some (.slice ta g.temps.length tc) ∧ w1.cell? ⟨w2.heap.size, 4, none⟩ = some (.slice ba g.body.length bc) ∧ w1.cell? ⟨w2.heap.size, 5, none⟩ = some (.string g.result)) (with_reducible exact HFF.out _ (by (repeat (with_reducible first | exact Below.refl _ _ | refine bel_drew ?_ | refine bel_alloc ?_ | (refine bel_sets4 ?_ ?_; rotate_left; (focus (first | exact Nat.le_refl _ | exact Below.size (by (repeat (with_reducible first | exact Below.refl _ _ | refine bel_drew ?_ | refine bel_alloc ?_ | (apply bel_step; focus assumption))))))) | (apply bel_step; focus assumption)))))
            (first
            | (go_at_call 15; (with_reducible refine (HC1.out _ (by (repeat (with_reducible first | exact Below.refl _ _ | refine bel_drew ?_ | refine bel_alloc ?_ | (apply bel_step; focus assumption))))).mono ?_); rintro e w5 ⟨a5, c5, rfl, hbd5, hb5⟩; have HBD5 := Lib.hid hbd5; clear hbd5)
            | (go_at_call 14; (with_reducible refine (HC2.out _ _ (by (repeat (with_reducible first | exact Below.refl _ _ | refine bel_drew ?_ | refine bel_alloc ?_ | (apply bel_step; focus assumption)))) (HBD5.out.stays (Stays.of_below (by (repeat (with_reducible first | exact Below.refl _ _ | refine bel_drew ?_ | refine bel_alloc ?_ | (apply bel_step; focus assumption))))))).mono ?_); rintro e w6 ⟨a6, c6, rfl, hn6, hb6⟩; have HN6 := Lib.hid hn6; clear hn6)
            | (go_at_call 16; (with_reducible refine (HC3.out _ _ _ _ (by (repeat (with_reducible first | exact Below.refl _ _ | refine bel_drew ?_ | refine bel_alloc ?_ | (apply bel_step; focus assumption)))) (HN6.out.stays (Stays.of_below (by (repeat (with_reducible first | exact Below.refl _ _ | refine bel_drew ?_ | refine bel_alloc ?_ | (apply bel_step; focus assumption))))))).mono ?_); rintro e w9 ⟨a9, n9, c9, rfl, hn9, hb9⟩; have HN9 := Lib.hid hn9; clear hn9; (first | (refine blk_use w9 W.heap.size ?_ (fun g0 g1 g2 g3 gf => ?_); focus ((repeat (with_reducible first | (refine blk_new ?_; (simp; done)) | refine blk_drew ?_ | refine blk_alloc ?_ | (apply blk_below; focus assumption))); done)) | skip); (first | (refine blk_use w9 w5.heap.size ?_ (fun g0 g1 g2 g3 gf => ?_); focus ((repeat (with_reducible first | (refine blk_new ?_; (simp; done)) | refine blk_drew ?_ | refine blk_alloc ?_ | (apply blk_below; focus assumption))); done)) | skip); (first | (refine blk_use w9 w6.heap.size ?_ (fun g0 g1 g2 g3 gf => ?_); focus ((repeat (with_reducible first | (refine blk_new ?_; (simp; done)) | refine blk_drew ?_ | refine blk_alloc ?_ | (apply blk_below; focus assumption))); done)) | skip)))
          all_goals
            have hz5 := hb5.size
            have hz6 := hb6.size
            have hz9 := hb9.size
            (try simp only [World.size_alloc, World.size_drew] at hz5 hz6 hz9)
            have hw9 : Below W.heap.size W w9 := (by (repeat (with_reducible first | exact Below.refl _ _ | refine bel_drew ?_ | refine bel_alloc ?_ | (apply bel_step; focus assumption))))
            have hf9 := blk_below hw9 HFX.out
            have HB9 := Lib.hid (HB2W.out.trans (hw9.mono HB2W.out.size))
            have hws := HWS.out
            have hsw9 := hw9.size
            clear hw9
            go_wp2
            go_meet
            first
            | (with_reducible exact cutW_new HN9.out hf9 HB9.out)
            | ((with_reducible refine cutW_set HN9.out ?_ ?_ ?_ hf9 HB9.out); (focus ((repeat (with_reducible first | (refine blk_new ?_; (simp; done)) | refine blk_drew ?_ | refine blk_alloc ?_ | (apply blk_below; focus assumption))); done)); (focus (intro b hb ha; (try simp only [World.size_alloc, World.size_drew] at ha); omega)); (focus omega))
        case rest =>
          obtain ⟨gb, ua, un, uc, rfl, hG, hN, hF, hBw⟩ := hcut
          have hcw : Below w.heap.size w wc := HBG.out.trans (hBw.mono HBG.out.size)
          have HCW := Lib.hid hcw
          have HG := Lib.hid hG
          have HN := Lib.hid hN
          have HF := Lib.hid hF
          have hgd := HGD.out
          have hsz := proc_size g hgd.1 hgd.2.1 hgd.2.2.1
          have HSZB := Lib.hid hsz
          have HPC := Lib.hid (proc_C g lib pa ta ba pc tc bc wc (HPS.out.stays (Stays.of_below hBw)) (HTM.out.stays (Stays.of_below hBw)) (HBD.out.stays (Stays.of_below hBw)) HSR.out hgd.1 hgd.2.1 hgd.2.2.1 hgd.2.2.2 hsz)
          have HPSC := Lib.hid (HPS.out.stays (Stays.of_below hBw))
          obtain ⟨f0, f1, f2, f3, f4, f5⟩ := cells6 hF
          clear hG hN hF hBw hcw hsz HC1 HC2 HC3 HFF HFX HB2W HWS hgd
          go_wp2_with fail
          refine HPC.out.mono ?_
          intro e w3 hp3
          obtain ⟨pn, xa, xl, xc, bk, bn, bs, ya, yn, yc, er, rfl, hpf, hb3⟩ := pr_facts hp3
          obtain ⟨W3, hW3⟩ : ∃ W3, W3 = w3.alloc (.cells #[.string pn, .slice xa xl xc, .int .u8 bk, .int .i64 bn, .string bs, .slice ya yn yc] 52) := ⟨_, rfl⟩
          have hb3W : Below w3.heap.size w3 W3 := by subst hW3; exact bel_alloc (Below.refl _ _)
          have hbc3 : Below wc.heap.size wc W3 := hb3.trans (hb3W.mono hb3.size)
          have HP3 : Hid (W3.heap[w3.heap.size]? = some (.cells #[.string pn, .slice xa xl xc, .int .u8 bk, .int .i64 bn, .string bs, .slice ya yn yc] 52 (0, 0))) := Lib.hid (by subst hW3; exact at_new0 _ _)
          have HPF := Lib.hid (hpf.below hb3W)
          have HG3 := Lib.hid (blk_below hbc3 HG.out)
          have HN3 := Lib.hid (HN.out.stays (Stays.of_below hbc3))
          have HF3 := Lib.hid (blk_below hbc3 HF.out)
          have HPS3 := Lib.hid (HPSC.out.stays (Stays.of_below hbc3))
          have HCW3 := Lib.hid (HCW.out.trans (hbc3.mono HCW.out.size))
          have HPAR := Lib.hid (params_C g pa ta ba pc tc bc W3 HPS3.out (by have := HGD.out.2.2.2; omega))
          clear hp3 hpf hb3 hb3W hbc3 HPC f0 f1 f2 f3 f4 f5
          obtain ⟨f0, f1, f2, f3, f4, f5⟩ := cells6 HF3.out
          subst hW3
          go_wp2_with fail
          generalize w3.alloc (.cells #[.string pn, .slice xa xl xc, .int .u8 bk, .int .i64 bn, .string bs, .slice ya yn yc] 52) = W3 at *
          refine HPAR.out.mono ?_
          rintro e w4 ⟨va, vc, rfl, hv4, hb4⟩
          have HV4 := Lib.hid (hv4.stays (A' := Any) ⟨Nat.le_refl _, fun _ _ _ => ⟨rfl, trivial⟩⟩)
          have HP4 := Lib.hid (blk_below hb4 HP3.out)
          have HPF4 := Lib.hid (HPF.out.below hb4)
          have HG4 := Lib.hid (blk_below hb4 HG3.out)
          have HN4 := Lib.hid (HN3.out.stays (Stays.of_below hb4))
          have HF4 := Lib.hid (blk_below hb4 HF3.out)
          have HPS4 := Lib.hid (HPS3.out.stays (Stays.of_below hb4))
          have HCW4 := Lib.hid (HCW3.out.trans (hb4.mono HCW3.out.size))
          clear hv4 hb4 HPAR f0 f1 f2 f3 f4 f5 HP3 HPF HG3 HN3 HF3 HPS3 HG HN HF
          obtain ⟨f0, f1, f2, f3, f4, f5⟩ := cells6 HF4.out
          have hpn : (paramsN g).length = g.params.length + 1 := by simp [paramsN]
          have hp8 := HGD.out.2.2.2
          rw [hpn]
          go_wp2
          go_loopw [70] (fun i wr => ∃ k : Nat, k ≤ g.params.length ∧ i = .int .i64 k ∧ Below w4.heap.size w4 wr) (fun i _ => g.params.length - (intOf i).toNat)
          case atStart => exact ⟨0, Nat.zero_le _, rfl, Below.refl _ _⟩
          case round =>
            obtain ⟨j, hj, rfl, hbl⟩ := hrel
            have HBL := Lib.hid hbl
            by_cases hlt : j < g.params.length
            · obtain ⟨bq, oq, capq, heq, hbq, _, _, q0, q1, hqs⟩ := (HPS4.out.stays (Stays.of_below hbl)).at hlt
              simp only [Value.slice.injEq] at heq
              obtain ⟨rfl, -, rfl⟩ := heq
              obtain ⟨bv, ov, hve, hbv, v0, v1, v2⟩ := dcl_at (HV4.out.stays (Stays.of_below hbl)) hlt
              subst hve
              have i0 : (0 : Int) ≤ (j : Int) := by omega
              have i1 : (j : Int) < (g.params.length : Int) := by omega
              have i2 : (j : Int) < (g.params.length : Int) + 1 := by omega
              have HBW : Hid (Below w4.heap.size w4 (wr.alloc (.cells #[.string (at' g.params j).name, .bool (at' g.params j).list] 57))) := Lib.hid (bel_alloc hbl)
              clear hbl
              cases hli : (at' g.params j).list with
              | true =>
                rw [hli] at q1 v1 HBW
                go_wp2
                go_quiet (fail)
                go_wp2
                exact ⟨⟨j + 1, by omega, by go_num, below_drewN HBW.out _⟩, by simp [intOf]; omega⟩
              | false =>
                rw [hli] at q1 v1 HBW
                go_wp2
                go_quiet (fail)
                go_wp2
                exact ⟨⟨j + 1, by omega, by go_num, below_drewN HBW.out _⟩, by simp [intOf]; omega⟩
            · obtain rfl : j = g.params.length := by omega
              obtain ⟨w5x, hw5x⟩ : ∃ w5x, w5x = wr := ⟨_, rfl⟩
              subst hw5x
              have hlt' : ¬ (g.params.length : Int) < (g.params.length : Int) := by omega
              have HPF5 := Lib.hid (HPF4.out.below hbl)
              have HP5 := Lib.hid (blk_below hbl HP4.out)
              have HG5 := Lib.hid (blk_below hbl HG4.out)
              have HN5 := Lib.hid (HN4.out.stays (Stays.of_below hbl))
              have HF5 := Lib.hid (blk_below hbl HF4.out)
              have HV5 := Lib.hid (HV4.out.stays (Stays.of_below hbl))
              have HCW5 := Lib.hid (HCW4.out.trans (hbl.mono HCW4.out.size))
              obtain ⟨bv, ov, hve, hbv, v0, v1, v2⟩ := dcl_last HV5.out
              subst hve
              have i0 : (0 : Int) ≤ (g.params.length : Int) := by omega
              have i2 : (g.params.length : Int) < (g.params.length : Int) + 1 := by omega
              have hwp : IntKind.i64.wrap ((g.params.length : Int) + 1 - 1) = (g.params.length : Int) := by rw [IntKind.wrap_i64]; omega
              have hwq : (g.params.length : Int) + 1 - 1 = (g.params.length : Int) := by omega
              clear f0 f1 f2 f3 f4 f5 hbl HPF4 HP4 HG4 HN4 HF4 HV4 HCW4 HBL
              obtain ⟨f0, f1, f2, f3, f4, f5⟩ := cells6 HF5.out
              have HDP : Hid (∀ w1, Below w5x.heap.size w5x w1 → Calls Tryz.prog 19 #[.agg #[.int .u8 57, .int .i64 0, .string ⟨#[]⟩, .slice ua un uc]] w1 fun e w' => e = .returned (.int .i64 (depthN (procB g))) ∧ Below w1.heap.size w1 w') := Lib.hid (fun w1 h => refDepth_any (procB g) _ Any w1 HSZB.out (HN5.out.stays (Stays.of_below h)))
              have HSP : Hid (∀ w1, Below w5x.heap.size w5x w1 → Calls Tryz.prog 20 #[.agg #[.int .u8 57, .int .i64 0, .string ⟨#[]⟩, .slice ua un uc]] w1 fun e w' => e = .returned (.int .i64 (sizeN (procB g))) ∧ Below w1.heap.size w1 w') := Lib.hid (fun w1 h => refSize_any (procB g) _ Any w1 HSZB.out (HN5.out.stays (Stays.of_below h)))
              have HXX : Hid (∀ w1, Below w5x.heap.size w5x w1 → (w1.cell? ⟨gb, 0, none⟩ = some (.int .u8 57) ∧ w1.cell? ⟨gb, 1, none⟩ = some (.int .i64 0) ∧ w1.cell? ⟨gb, 2, none⟩ = some (.string ⟨#[]⟩) ∧ w1.cell? ⟨gb, 3, none⟩ = some (.slice ua un uc)) ∧ (w1.cell? ⟨w3.heap.size, 0, none⟩ = some (.string pn) ∧ w1.cell? ⟨w3.heap.size, 1, none⟩ = some (.slice xa xl xc) ∧ w1.cell? ⟨w3.heap.size, 2, none⟩ = some (.int .u8 bk) ∧ w1.cell? ⟨w3.heap.size, 3, none⟩ = some (.int .i64 bn) ∧ w1.cell? ⟨w3.heap.size, 4, none⟩ = some (.string bs) ∧ w1.cell? ⟨w3.heap.size, 5, none⟩ = some (.slice ya yn yc)) ∧ w1.cell? ⟨w2.heap.size, 0, none⟩ = some (.string g.name)) := Lib.hid (fun w1 h => ⟨cells4 (blk_below h HG5.out), cells6 (blk_below h HP5.out), cell_blk (blk_below h HF5.out) 0 rfl⟩)
              obtain ⟨⟨u0, u1, u2, u3⟩, -, -⟩ := HXX.out w5x (Below.refl _ _)
              have HQF : Hid (∀ w1, Below w5x.heap.size w5x w1 → Below w.heap.size w w1) := Lib.hid (fun w1 h => HCW5.out.trans (h.mono HCW5.out.size))
              cases hgl : g.list with
              | true =>
                rw [hgl] at f2 v1
                clear hgl
                by_cases q80 : 80 < depthN (procB g)
                · obtain ⟨rfl, rfl, rfl⟩ := HPF5.out.1 q80
                  have d80 : decide ((80 : Int) < (depthN (procB g) : Int)) = true := by simp; omega
                  have HH := Lib.hid q80
                  clear q80
                  go_wp2_with fail
                  refine (HDP.out _ (Below.refl _ _)).mono ?_
                  rintro e w6 ⟨rfl, hb6⟩
                  obtain ⟨⟨u0, u1, u2, u3⟩, ⟨p0, p1, p2, p3, p4, p5⟩, -⟩ := HXX.out w6 hb6
                  have HB6 := Lib.hid (HQF.out _ hb6)
                  clear hb6
                  go_wp2
                  go_ret
                  exact ⟨rfl, HB6.out⟩
                · have d80 : decide ((80 : Int) < (depthN (procB g) : Int)) = false := by simp; omega
                  have HH := Lib.hid q80
                  clear q80
                  go_wp2_with fail
                  refine (HDP.out _ (Below.refl _ _)).mono ?_
                  rintro e w6 ⟨rfl, hb6⟩
                  obtain ⟨⟨u0, u1, u2, u3⟩, ⟨p0, p1, p2, p3, p4, p5⟩, n0⟩ := HXX.out w6 hb6
                  by_cases q20 : 2000 < sizeN (procB g)
                  · obtain ⟨rfl, rfl, rfl⟩ := HPF5.out.2.1 HH.out (.inl q20)
                    have d20 : decide ((2000 : Int) < (sizeN (procB g) : Int)) = true := by simp; omega
                    clear q20
                    go_wp2_with fail
                    refine (HSP.out _ hb6).mono ?_
                    rintro e w7 ⟨rfl, hb7⟩
                    have hb67 := hb6.trans (hb7.mono hb6.size)
                    obtain ⟨⟨u0, u1, u2, u3⟩, ⟨p0, p1, p2, p3, p4, p5⟩, n0⟩ := HXX.out w7 hb67
                    have HB7 := Lib.hid (HQF.out _ hb67)
                    clear hb6 hb7 hb67
                    go_wp2
                    go_ret
                    exact ⟨rfl, HB7.out⟩
                  · have d20 : decide ((2000 : Int) < (sizeN (procB g) : Int)) = false := by simp; omega
                    have HQ20 := Lib.hid q20
                    clear q20
                    go_wp2_with fail
                    refine (HSP.out _ hb6).mono ?_
                    rintro e w7 ⟨rfl, hb7⟩
                    have hb67 := hb6.trans (hb7.mono hb6.size)
                    obtain ⟨⟨u0, u1, u2, u3⟩, ⟨p0, p1, p2, p3, p4, p5⟩, n0⟩ := HXX.out w7 hb67
                    have HB67 := Lib.hid hb67
                    have HB7 := Lib.hid (HQF.out _ hb67)
                    clear hb6 hb7 hb67
                    by_cases q8 : 8 < g.params.length + 1
                    · obtain ⟨rfl, rfl, rfl⟩ := HPF5.out.2.1 HH.out (.inr (by rw [hpn]; exact q8))
                      have d8 : decide ((8 : Int) < (g.params.length : Int) + 1) = true := by simp; omega
                      clear q8
                      go_wp2
                      go_ret
                      exact ⟨rfl, HB7.out⟩
                    · have d8 : decide ((8 : Int) < (g.params.length : Int) + 1) = false := by simp; omega
                      obtain ⟨rfl, rfl, rfl, hxr, hxn⟩ := HPF5.out.2.2 HH.out (fun h => h.elim HQ20.out (fun h => q8 (by rw [← hpn]; exact h)))
                      have HXR := Lib.hid hxr
                      have HEQ : Hid (∀ w1, Below w5x.heap.size w5x w1 → Calls Tryz.prog 13 #[.agg #[.int .u8 bk, .int .i64 bn, .string bs, .slice ya yn yc], .agg #[.int .u8 57, .int .i64 0, .string ⟨#[]⟩, .slice ua un uc]] w1 fun e w' => e = .returned (.bool true) ∧ Below w1.heap.size w1 w') := Lib.hid (fun w1 h => refEqual_any (procB g) _ _ Any Any w1 (hxn.stays (Stays.of_below h)) (HN5.out.stays (Stays.of_below h)))
                      clear q8 hxr hxn
                      rw [hpn] at p1
                      go_wp2_with fail
                      refine (HEQ.out _ HB67.out).mono ?_
                      rintro e w8 ⟨rfl, hb8⟩
                      have hb68 := HB67.out.trans (hb8.mono HB67.out.size)
                      have HB68 := Lib.hid hb68
                      clear u0 u1 u2 u3 p0 p1 p2 p3 p4 p5 n0 hb8 hb68
                      obtain ⟨⟨u0, u1, u2, u3⟩, ⟨p0, p1, p2, p3, p4, p5⟩, n0⟩ := HXX.out w8 HB68.out
                      rw [hpn] at p1
                      go_wp2
                      go_loopw [165] (fun i wr => ∃ k : Nat, k ≤ g.params.length + 1 ∧ i = .int .i64 k ∧ Below w8.heap.size w8 wr) (fun i _ => g.params.length + 1 - (intOf i).toNat)
                      case atStart => exact ⟨0, Nat.zero_le _, rfl, Below.refl _ _⟩
                      case round =>
                        obtain ⟨j2, hj2, rfl, hbq⟩ := hrel
                        have HBQ := Lib.hid hbq
                        have hbrq := HB68.out.trans (hbq.mono HB68.out.size)
                        have HFQ := Lib.hid (HQF.out _ hbrq)
                        by_cases hlt2 : j2 < g.params.length + 1
                        · clear u0 u1 u2 u3 p0 p1 p2 p3 p4 p5 n0
                          obtain ⟨-, ⟨-, p1, -⟩, -⟩ := HXX.out wr hbrq
                          rw [hpn] at p1
                          obtain ⟨b7, o7, he7, hb7, x0, x1, x2⟩ := dcl_any (HXR.out.stays (Stays.of_below hbrq)) (by rw [hpn]; exact hlt2)
                          obtain ⟨b8, o8, he8, hb8, y0, y1, y2⟩ := dcl_any (HV5.out.stays (Stays.of_below hbrq)) (by rw [hpn]; exact hlt2)
                          simp only [Option.some.injEq, Addr.mk.injEq, and_true] at he8
                          obtain ⟨rfl, rfl⟩ := he8
                          subst he7
                          have i4 : (0 : Int) ≤ (j2 : Int) := by omega
                          have i5 : (j2 : Int) < (g.params.length : Int) + 1 := by omega
                          have i6 : (j2 : Int) < ((g.params.length + 1 : Nat) : Int) := by omega
                          clear hbq hbrq
                          go_wp2
                          go_quiet (fail)
                          go_wp2
                          exact ⟨⟨j2 + 1, by omega, by go_num, below_drewN HBQ.out _⟩, by simp [intOf]; omega⟩
                        · obtain rfl : j2 = g.params.length + 1 := by omega
                          have hlt3 : ¬ ((g.params.length + 1 : Nat) : Int) < (g.params.length : Int) + 1 := by omega
                          clear hbq hbrq
                          go_wp2
                          go_ret
                          exact ⟨rfl, HFQ.out⟩
              | false =>
                rw [hgl] at f2 v1
                clear hgl
                by_cases q80 : 80 < depthN (procB g)
                · obtain ⟨rfl, rfl, rfl⟩ := HPF5.out.1 q80
                  have d80 : decide ((80 : Int) < (depthN (procB g) : Int)) = true := by simp; omega
                  have HH := Lib.hid q80
                  clear q80
                  go_wp2_with fail
                  refine (HDP.out _ (Below.refl _ _)).mono ?_
                  rintro e w6 ⟨rfl, hb6⟩
                  obtain ⟨⟨u0, u1, u2, u3⟩, ⟨p0, p1, p2, p3, p4, p5⟩, -⟩ := HXX.out w6 hb6
                  have HB6 := Lib.hid (HQF.out _ hb6)
                  clear hb6
                  go_wp2
                  go_ret
                  exact ⟨rfl, HB6.out⟩
                · have d80 : decide ((80 : Int) < (depthN (procB g) : Int)) = false := by simp; omega
                  have HH := Lib.hid q80
                  clear q80
                  go_wp2_with fail
                  refine (HDP.out _ (Below.refl _ _)).mono ?_
                  rintro e w6 ⟨rfl, hb6⟩
                  obtain ⟨⟨u0, u1, u2, u3⟩, ⟨p0, p1, p2, p3, p4, p5⟩, n0⟩ := HXX.out w6 hb6
                  by_cases q20 : 2000 < sizeN (procB g)
                  · obtain ⟨rfl, rfl, rfl⟩ := HPF5.out.2.1 HH.out (.inl q20)
                    have d20 : decide ((2000 : Int) < (sizeN (procB g) : Int)) = true := by simp; omega
                    clear q20
                    go_wp2_with fail
                    refine (HSP.out _ hb6).mono ?_
                    rintro e w7 ⟨rfl, hb7⟩
                    have hb67 := hb6.trans (hb7.mono hb6.size)
                    obtain ⟨⟨u0, u1, u2, u3⟩, ⟨p0, p1, p2, p3, p4, p5⟩, n0⟩ := HXX.out w7 hb67
                    have HB7 := Lib.hid (HQF.out _ hb67)
                    clear hb6 hb7 hb67
                    go_wp2
                    go_ret
                    exact ⟨rfl, HB7.out⟩
                  · have d20 : decide ((2000 : Int) < (sizeN (procB g) : Int)) = false := by simp; omega
                    have HQ20 := Lib.hid q20
                    clear q20
                    go_wp2_with fail
                    refine (HSP.out _ hb6).mono ?_
                    rintro e w7 ⟨rfl, hb7⟩
                    have hb67 := hb6.trans (hb7.mono hb6.size)
                    obtain ⟨⟨u0, u1, u2, u3⟩, ⟨p0, p1, p2, p3, p4, p5⟩, n0⟩ := HXX.out w7 hb67
                    have HB67 := Lib.hid hb67
                    have HB7 := Lib.hid (HQF.out _ hb67)
                    clear hb6 hb7 hb67
                    by_cases q8 : 8 < g.params.length + 1
                    · obtain ⟨rfl, rfl, rfl⟩ := HPF5.out.2.1 HH.out (.inr (by rw [hpn]; exact q8))
                      have d8 : decide ((8 : Int) < (g.params.length : Int) + 1) = true := by simp; omega
                      clear q8
                      go_wp2
                      go_ret
                      exact ⟨rfl, HB7.out⟩
                    · have d8 : decide ((8 : Int) < (g.params.length : Int) + 1) = false := by simp; omega
                      obtain ⟨rfl, rfl, rfl, hxr, hxn⟩ := HPF5.out.2.2 HH.out (fun h => h.elim HQ20.out (fun h => q8 (by rw [← hpn]; exact h)))
                      have HXR := Lib.hid hxr
                      have HEQ : Hid (∀ w1, Below w5x.heap.size w5x w1 → Calls Tryz.prog 13 #[.agg #[.int .u8 bk, .int .i64 bn, .string bs, .slice ya yn yc], .agg #[.int .u8 57, .int .i64 0, .string ⟨#[]⟩, .slice ua un uc]] w1 fun e w' => e = .returned (.bool true) ∧ Below w1.heap.size w1 w') := Lib.hid (fun w1 h => refEqual_any (procB g) _ _ Any Any w1 (hxn.stays (Stays.of_below h)) (HN5.out.stays (Stays.of_below h)))
                      clear q8 hxr hxn
                      rw [hpn] at p1
                      go_wp2_with fail
                      refine (HEQ.out _ HB67.out).mono ?_
                      rintro e w8 ⟨rfl, hb8⟩
                      have hb68 := HB67.out.trans (hb8.mono HB67.out.size)
                      have HB68 := Lib.hid hb68
                      clear u0 u1 u2 u3 p0 p1 p2 p3 p4 p5 n0 hb8 hb68
                      obtain ⟨⟨u0, u1, u2, u3⟩, ⟨p0, p1, p2, p3, p4, p5⟩, n0⟩ := HXX.out w8 HB68.out
                      rw [hpn] at p1
                      go_wp2
                      go_loopw [165] (fun i wr => ∃ k : Nat, k ≤ g.params.length + 1 ∧ i = .int .i64 k ∧ Below w8.heap.size w8 wr) (fun i _ => g.params.length + 1 - (intOf i).toNat)
                      case atStart => exact ⟨0, Nat.zero_le _, rfl, Below.refl _ _⟩
                      case round =>
                        obtain ⟨j2, hj2, rfl, hbq⟩ := hrel
                        have HBQ := Lib.hid hbq
                        have hbrq := HB68.out.trans (hbq.mono HB68.out.size)
                        have HFQ := Lib.hid (HQF.out _ hbrq)
                        by_cases hlt2 : j2 < g.params.length + 1
                        · clear u0 u1 u2 u3 p0 p1 p2 p3 p4 p5 n0
                          obtain ⟨-, ⟨-, p1, -⟩, -⟩ := HXX.out wr hbrq
                          rw [hpn] at p1
                          obtain ⟨b7, o7, he7, hb7, x0, x1, x2⟩ := dcl_any (HXR.out.stays (Stays.of_below hbrq)) (by rw [hpn]; exact hlt2)
                          obtain ⟨b8, o8, he8, hb8, y0, y1, y2⟩ := dcl_any (HV5.out.stays (Stays.of_below hbrq)) (by rw [hpn]; exact hlt2)
                          simp only [Option.some.injEq, Addr.mk.injEq, and_true] at he8
                          obtain ⟨rfl, rfl⟩ := he8
                          subst he7
                          have i4 : (0 : Int) ≤ (j2 : Int) := by omega
                          have i5 : (j2 : Int) < (g.params.length : Int) + 1 := by omega
                          have i6 : (j2 : Int) < ((g.params.length + 1 : Nat) : Int) := by omega
                          clear hbq hbrq
                          go_wp2
                          go_quiet (fail)
                          go_wp2
                          exact ⟨⟨j2 + 1, by omega, by go_num, below_drewN HBQ.out _⟩, by simp [intOf]; omega⟩
                        · obtain rfl : j2 = g.params.length + 1 := by omega
                          have hlt3 : ¬ ((g.params.length + 1 : Nat) : Int) < (g.params.length : Int) + 1 := by omega
                          clear hbq hbrq
                          go_wp2
                          go_ret
                          exact ⟨rfl, HFQ.out⟩
end Go.Proofs.YtehmmokkjojggabGreatDoor
