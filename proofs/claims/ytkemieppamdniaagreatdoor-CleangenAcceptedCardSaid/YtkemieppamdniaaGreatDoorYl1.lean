/- Contracts and plain lemmas (PLsl, LslA, LslB, LslC, LslD): no statement of the seat is proved here. -/
import Derived.Test.YtkemieppamdniaaGreatDoorYq07
import Derived.Test.YtkemieppamdniaaGreatDoorYq12
import Derived.Deep.RegionHeld3
namespace Go.Proofs.YtkemieppamdniaaGreatDoor
set_option linter.unusedVariables false

theorem bstr_inj {l m : List UInt8} : bstr l = bstr m ↔ l = m :=
  ⟨fun h => by have := congrArg (fun b : ByteArray => b.data.toList) h; simpa [bstr] using this, fun h => by rw [h]⟩
def lspillS : ByteArray := bstr [108, 115, 112, 105, 108, 108]
def gS : ByteArray := bstr [103]
def aS : ByteArray := bstr [97]
def bS : ByteArray := bstr [98]
def tS : ByteArray := bstr [116]
def xS : ByteArray := bstr [120]
def yS : ByteArray := bstr [121]
def nS : ByteArray := bstr [110]

def sizeS (s : ByteArray) : Nd := nodeN 5 s []
def eqS (a b : Nd) : Nd := nodeN 16 ByteArray.empty [a, b]
def pushS (x s : ByteArray) : Nd := nodeN 44 s [vN x]
def popS (x s : ByteArray) : Nd := nodeN 45 s [vN x]
def localS (t : ByteArray) (a c : Nd) (l : List Nd) : Nd := nodeN 54 t [a, blockN l, c]
def loopS (e d : Nd) (l : List Nd) : Nd := nodeN 53 ByteArray.empty [e, blockN [], blockN l, d]
def moveS (x y : ByteArray) : Nd := localS xS (numN 0) (numN 0) [popS xS x, pushS xS y]
def dupS : Nd := localS yS (vN xS) (numN 0) [pushS yS bS]
def copyB : Nd := blockN [nodeN 55 tS [blockN [loopS (eqS (sizeS tS) (numN 0)) (eqS (sizeS aS) (numN 0)) [moveS aS tS], loopS (eqS (sizeS aS) (numN 0)) (eqS (sizeS tS) (numN 0)) [localS xS (numN 0) (numN 0) [popS xS tS, dupS, pushS xS aS]]]]]
def spillB : Nd := blockN [localS nS (sizeS aS) (numN 0) [loopS (eqS (sizeS aS) (vN nS)) (eqS (sizeS aS) (numN 0)) [moveS aS gS], pushS nS gS]]
end Go.Proofs.YtkemieppamdniaaGreatDoor
namespace Go.Proofs.YtkemieppamdniaaGreatDoor
set_option linter.unusedVariables false
set_option linter.unusedSimpArgs false
open Go.RowKit

/-- the blocks of A, and those that lie behind the first c of the call -/
def NewC (A : Nat → Prop) (w : World) (c : Nat) (k : Nat) : Prop := (A k ∧ k < w.heap.size) ∨ w.heap.size + c ≤ k
theorem nd_mono {A A' : Nat → Prop} {w : World} {v : Value} {x : Nd} (h : NdAt A w v x) (hA : ∀ k, A k → A' k) : NdAt A' w v x := h.stays ⟨Nat.le_refl _, fun b _ a => ⟨rfl, hA b a⟩⟩
theorem nd_in {A : Nat → Prop} {w : World} {v : Value} {x : Nd} (h : NdAt A w v x) (c : Nat) : NdAt (NewC A w c) w v x := h.stays ⟨Nat.le_refl _, fun b hb a => ⟨rfl, .inl ⟨a, hb⟩⟩⟩
theorem kids_in {A : Nat → Prop} {w : World} {v : Value} {l : List Nd} (h : KidsAt A w v l) (c : Nat) : KidsAt (NewC A w c) w v l := h.stays ⟨Nat.le_refl _, fun b hb a => ⟨rfl, .inl ⟨a, hb⟩⟩⟩
theorem newC_out {A : Nat → Prop} {w wi : World} {c : Nat} (h : w.heap.size + c ≤ wi.heap.size) : ∀ k, NewC (NewC A w c) wi 0 k → NewC A w c k := fun k hk => by
  rcases hk with ⟨hk, _⟩ | hk
  · exact hk
  · exact .inr (by omega)
theorem newC_le {A : Nat → Prop} {w : World} {c : Nat} : ∀ k, NewC A w c k → NewC A w 0 k := fun k hk => hk.imp id (fun h => by omega)
/-- what a function leaves that returns a tree -/
def NdR (A : Nat → Prop) (x : Nd) (w : World) (e : Ending) (w' : World) : Prop := ∃ ka kc, e = .returned (.agg #[.int .u8 x.kind, .int .i64 x.num, .string x.name, .slice ka x.kids.length kc]) ∧ NdAt (NewC A w 0) w' (.agg #[.int .u8 x.kind, .int .i64 x.num, .string x.name, .slice ka x.kids.length kc]) x ∧ Below w.heap.size w w'
/-- a tree that lies on -/
def Held (D : Nat → Prop) (W : World) (v : Value) (x : Nd) : Prop := ∀ w', Below W.heap.size W w' → NdAt D w' v x
theorem Held.of {D : Nat → Prop} {W : World} {v : Value} {x : Nd} (h : NdAt D W v x) : Held D W v x := fun w' hb => h.stays (Stays.of_below hb)
theorem Held.use {D : Nat → Prop} {W w' : World} {v : Value} {x : Nd} (h : Held D W v x) (hb : Below W.heap.size W w') : NdAt D w' v x := h w' hb
theorem Held.call {A : Nat → Prop} {w wi w' : World} {c : Nat} {v : Value} {x : Nd} (h : NdAt (NewC (NewC A w c) wi 0) w' v x) (hw : w.heap.size + c ≤ wi.heap.size) : Held (NewC A w c) w' v x := .of (nd_mono h (newC_out hw))
theorem stays_s4L {D : Nat → Prop} {w : World} {g : Nat} (hg : ¬ D g) (x0 x1 x2 x3 : Value) : Stays D D w ((((w.setCell ⟨g, 0, none⟩ x0).setCell ⟨g, 1, none⟩ x1).setCell ⟨g, 2, none⟩ x2).setCell ⟨g, 3, none⟩ x3) := by
  have h1 := ((keeps_set w g 0 x0).same (keeps_set _ g 1 x1)).same ((keeps_set _ g 2 x2).same (keeps_set _ g 3 x3))
  exact h1.stays (fun k a _ e => hg (e ▸ a))
theorem bel_s4L {b : Nat} {w0 w : World} (h : Below b w0 w) {g : Nat} (hg : b ≤ g) (x0 x1 x2 x3 : Value) : Below b w0 ((((w.setCell ⟨g, 0, none⟩ x0).setCell ⟨g, 1, none⟩ x1).setCell ⟨g, 2, none⟩ x2).setCell ⟨g, 3, none⟩ x3) :=
  (((h.setCell hg _).setCell hg _).setCell hg _).setCell hg _
/-- the end of a function whose result is stored to its box -/
theorem fin_L {A : Nat → Prop} {w0 w : World} {x : Nd} {ka : Option Addr} {kc g c : Nat} (hn : NdAt (NewC A w0 c) w (.agg #[.int .u8 x.kind, .int .i64 x.num, .string x.name, .slice ka x.kids.length kc]) x) (h1 : w0.heap.size ≤ g) (h2 : g < w0.heap.size + c) (hb : Below w0.heap.size w0 w) (a0 a1 a2 a3 : Value) :
    NdR A x w0 (.returned (.agg #[.int .u8 x.kind, .int .i64 x.num, .string x.name, .slice ka x.kids.length kc])) ((((w.setCell ⟨g, 0, none⟩ a0).setCell ⟨g, 1, none⟩ a1).setCell ⟨g, 2, none⟩ a2).setCell ⟨g, 3, none⟩ a3) := by
  have hg : ¬ NewC A w0 c g := fun h => by
    rcases h with ⟨_, h⟩ | h <;> omega
  exact ⟨ka, kc, rfl, nd_mono (hn.stays (stays_s4L hg _ _ _ _)) newC_le, bel_s4L hb h1 _ _ _ _⟩

theorem named_L (A : Nat → Prop) (k : Int) (hk : 0 ≤ k ∧ k ≤ 255) (s : ByteArray) (hs : s.size ≤ maxLen) (l : List Nd) (n : Nat) (hln : n = l.length) (ka : Option Addr) (kc : Nat) (w : World) (hl : KidsAt A w (.slice ka n kc) l) :
    Calls Tryz.prog 141 #[.int .u8 k, .string s, .slice ka n kc] w (NdR A (nodeN k s l) w) := by
  subst hln
  have HL := Lib.hid hl
  clear hl
  go_enter Tryz.func141, Tryz.ntmps141
  go_wp2
  go_returns
  have hA : Below w.heap.size w (w.alloc (.cells #[.int .u8 k, .int .i64 0, .string s, .slice ka l.length kc] 35)) := bel_alloc (Below.refl _ _)
  exact ⟨ka, kc, rfl, nd_node ((kids_in HL.out 0).stays (Stays.of_below hA)) hk hs, hA⟩
theorem block_L (A : Nat → Prop) (l : List Nd) (n : Nat) (hln : n = l.length) (ka : Option Addr) (kc : Nat) (w : World) (hl : KidsAt A w (.slice ka n kc) l) :
    Calls Tryz.prog 140 #[.slice ka n kc] w (NdR A (blockN l) w) := by
  subst hln
  have HL := Lib.hid hl
  clear hl
  go_enter Tryz.func140, Tryz.ntmps140
  go_wp2
  go_returns
  have hA : Below w.heap.size w (w.alloc (.cells #[.int .u8 57, .int .i64 0, .string ⟨#[]⟩, .slice ka l.length kc] 35)) := bel_alloc (Below.refl _ _)
  exact ⟨ka, kc, rfl, nd_node (k := 57) ((kids_in HL.out 0).stays (Stays.of_below hA)) (by omega) (Nat.zero_le _), hA⟩
theorem number_L (A : Nat → Prop) (x : Int) (hx : In64 x) (w : World) : Calls Tryz.prog 138 #[.int .i64 x] w (NdR A (numN x) w) := by
  have HX := Lib.hid hx
  clear hx
  go_enter Tryz.func138, Tryz.ntmps138
  go_wp2
  go_returns
  exact ⟨none, 0, rfl, nd_num HX.out, bel_alloc (Below.refl _ _)⟩
set_option maxHeartbeats 800000 in
theorem variable_L (A : Nat → Prop) (s : ByteArray) (hs : s.size ≤ maxLen) (w : World) : Calls Tryz.prog 137 #[.string s] w (NdR A (vN s) w) := by
  have hA : Below w.heap.size w (w.alloc (.cells #[.int .u8 0, .int .i64 0, .string ⟨#[]⟩, .slice none 0 0] 35)) := bel_alloc (Below.refl _ _)
  have HN := Lib.hid (named_L (NewC A w 1) 2 (by omega) s hs [] 0 rfl none 0 (w.alloc (.cells #[.int .u8 0, .int .i64 0, .string ⟨#[]⟩, .slice none 0 0] 35)) (KidsAt.nil _))
  have HB := Lib.hid (at_new0 w (.cells #[.int .u8 0, .int .i64 0, .string ⟨#[]⟩, .slice none 0 0] 35))
  have HA := Lib.hid hA
  clear hA
  go_enter Tryz.func137, Tryz.ntmps137
  go_wp2_with (go_at_call 141; refine HN.out.mono ?_; rintro e w1 ⟨ka, kc, rfl, hn, hb⟩; have hr := blk_below hb HB.out; obtain ⟨r0, r1, r2, r3⟩ := cells4 hr; have f := unfrozen hr; have HR := Lib.hid hr; have HB1 := Lib.hid hb; have HN1 := Lib.hid hn; clear hr hb hn)
  (try simp only [Exit.inBlock, Exit.then]); refine bodyPost_ret (results_cell_row (P := Tryz.prog) rfl _ _ w.heap.size _ _ _ _ rfl (set4 HR.out _ _ _ _) Tryz.underlying35 rfl (by kernel_rfl)) rfl ?_
  exact fin_L (x := vN s) (nd_mono HN1.out (newC_out (by simp))) (Nat.le_refl _) (by omega) (HA.out.trans (HB1.out.mono HA.out.size)) _ _ _ _
set_option maxHeartbeats 800000 in
theorem size_L (A : Nat → Prop) (s : ByteArray) (hs : s.size ≤ maxLen) (w : World) : Calls Tryz.prog 144 #[.string s] w (NdR A (sizeS s) w) := by
  have hA : Below w.heap.size w (w.alloc (.cells #[.int .u8 0, .int .i64 0, .string ⟨#[]⟩, .slice none 0 0] 35)) := bel_alloc (Below.refl _ _)
  have HN := Lib.hid (named_L (NewC A w 1) 5 (by omega) s hs [] 0 rfl none 0 (w.alloc (.cells #[.int .u8 0, .int .i64 0, .string ⟨#[]⟩, .slice none 0 0] 35)) (KidsAt.nil _))
  have HB := Lib.hid (at_new0 w (.cells #[.int .u8 0, .int .i64 0, .string ⟨#[]⟩, .slice none 0 0] 35))
  have HA := Lib.hid hA
  clear hA
  go_enter Tryz.func144, Tryz.ntmps144
  go_wp2_with (go_at_call 141; refine HN.out.mono ?_; rintro e w1 ⟨ka, kc, rfl, hn, hb⟩; have hr := blk_below hb HB.out; obtain ⟨r0, r1, r2, r3⟩ := cells4 hr; have f := unfrozen hr; have HR := Lib.hid hr; have HB1 := Lib.hid hb; have HN1 := Lib.hid hn; clear hr hb hn)
  (try simp only [Exit.inBlock, Exit.then]); refine bodyPost_ret (results_cell_row (P := Tryz.prog) rfl _ _ w.heap.size _ _ _ _ rfl (set4 HR.out _ _ _ _) Tryz.underlying35 rfl (by kernel_rfl)) rfl ?_
  exact fin_L (x := sizeS s) (nd_mono HN1.out (newC_out (by simp))) (Nat.le_refl _) (by omega) (HA.out.trans (HB1.out.mono HA.out.size)) _ _ _ _
set_option maxHeartbeats 1600000 in
theorem equal_L (A : Nat → Prop) (a b : Nd) (ka : Option Addr) (kc : Nat) (kb : Option Addr) (kd : Nat) (w : World) (ha : NdAt A w (.agg #[.int .u8 a.kind, .int .i64 a.num, .string a.name, .slice ka a.kids.length kc]) a) (hb : NdAt A w (.agg #[.int .u8 b.kind, .int .i64 b.num, .string b.name, .slice kb b.kids.length kd]) b) :
    Calls Tryz.prog 143 #[(.agg #[.int .u8 a.kind, .int .i64 a.num, .string a.name, .slice ka a.kids.length kc]), (.agg #[.int .u8 b.kind, .int .i64 b.num, .string b.name, .slice kb b.kids.length kd])] w (NdR A (eqS a b) w) := by
  have HA := Lib.hid ha
  have HB := Lib.hid hb
  have hO := at_old w (.cells #[.int .u8 a.kind, .int .i64 a.num, .string a.name, .slice ka a.kids.length kc] 35) (.cells #[.int .u8 b.kind, .int .i64 b.num, .string b.name, .slice kb b.kids.length kd] 35)
  have hN := at_new w (.cells #[.int .u8 a.kind, .int .i64 a.num, .string a.name, .slice ka a.kids.length kc] 35) (.cells #[.int .u8 b.kind, .int .i64 b.num, .string b.name, .slice kb b.kids.length kd] 35)
  obtain ⟨a0, a1, a2, a3⟩ := cells4 hO
  obtain ⟨b0, b1, b2, b3⟩ := cells4 hN
  clear ha hb hO hN
  go_enter Tryz.func143, Tryz.ntmps143
  go_wp2
  go_returns
  refine ⟨_, 2, rfl, nd_node (k := 16) (s := ⟨#[]⟩) (l := [a, b]) (kids_2 (n := a) (n' := b) ?_ (.inr (by omega)) ((nd_in HA.out 0).stays (Stays.of_below (by (repeat (with_reducible first | exact Below.refl _ _ | refine bel_drew ?_ | refine bel_alloc ?_ | (apply bel_step; focus assumption)))))) ((nd_in HB.out 0).stays (Stays.of_below (by (repeat (with_reducible first | exact Below.refl _ _ | refine bel_drew ?_ | refine bel_alloc ?_ | (apply bel_step; focus assumption))))))) (by omega) (Nat.zero_le _), (by (repeat (with_reducible first | exact Below.refl _ _ | refine bel_drew ?_ | refine bel_alloc ?_ | (apply bel_step; focus assumption))))⟩
  exact (by (repeat (with_reducible first | (refine blk_new ?_; (simp; done)) | (refine blk_new ?_; rfl) | refine blk_drew ?_ | refine blk_alloc ?_ | (apply blk_below; focus assumption))))
end Go.Proofs.YtkemieppamdniaaGreatDoor
namespace Go.Proofs.YtkemieppamdniaaGreatDoor
set_option linter.unusedVariables false
set_option linter.unusedSimpArgs false
open Go.RowKit

set_option maxRecDepth 100000 in
set_option maxHeartbeats 1600000 in
theorem push_L (A : Nat → Prop) (x s : ByteArray) (hx : x.size ≤ maxLen) (hs : s.size ≤ maxLen) (w : World) : Calls Tryz.prog 139 #[.string x, .string s] w (NdR A (pushS x s) w) := by
  have hA : Below w.heap.size w (w.alloc (.cells #[.int .u8 0, .int .i64 0, .string ⟨#[]⟩, .slice none 0 0] 35)) := bel_alloc (Below.refl _ _)
  have HV := Lib.hid (variable_L (NewC A w 1) x hx (w.alloc (.cells #[.int .u8 0, .int .i64 0, .string ⟨#[]⟩, .slice none 0 0] 35)))
  have HB := Lib.hid (at_new0 w (.cells #[.int .u8 0, .int .i64 0, .string ⟨#[]⟩, .slice none 0 0] 35))
  have hws : (w.alloc (.cells #[.int .u8 0, .int .i64 0, .string ⟨#[]⟩, .slice none 0 0] 35)).heap.size = w.heap.size + 1 := by simp
  have HA := Lib.hid hA
  have HNM := Lib.hid (fun (w1 : World) (ka : Option Addr) (kc : Nat) (hn : NdAt (NewC A w 1) w1 (.agg #[.int .u8 (vN x).kind, .int .i64 (vN x).num, .string (vN x).name, .slice ka (vN x).kids.length kc]) (vN x)) (hz : w.heap.size + 1 ≤ w1.heap.size) =>
    named_L (NewC A w 1) 44 (by omega) s hs [vN x] 1 rfl (some ⟨w1.heap.size, 0, none⟩) 1 (w1.alloc (.cells #[.int .u8 (vN x).kind, .int .i64 (vN x).num, .string (vN x).name, .slice ka (vN x).kids.length kc] 35)) (kids_1 (at_new0 w1 (.cells #[.int .u8 (vN x).kind, .int .i64 (vN x).num, .string (vN x).name, .slice ka (vN x).kids.length kc] 35)) (.inr hz) (hn.stays (Stays.of_below (bel_alloc (Below.refl _ _))))))
  clear hA
  go_enter Tryz.func139, Tryz.ntmps139
  go_wp2_with (first
    | (go_at_call 137; refine HV.out.mono ?_; rintro e w1 ⟨ka, kc, rfl, hn, hb⟩; have hr := blk_below hb HB.out; have HR1 := Lib.hid hr; have HB1 := Lib.hid hb; have hz1 : w.heap.size + 1 ≤ w1.heap.size := by { have := hb.size; omega }; have HN1 := Lib.hid (nd_mono hn (newC_out (by omega))); clear hr hb hn)
    | (go_at_call 141; refine (HNM.out w1 ka kc HN1.out hz1).mono ?_; rintro e w2 ⟨ka2, kc2, rfl, hn2, hb2⟩; have hr2 := blk_below hb2 (blk_below (bel_alloc (Below.refl _ _)) HR1.out); obtain ⟨r0, r1, r2, r3⟩ := cells4 hr2; have f := unfrozen hr2; have HR2 := Lib.hid hr2; have HB2 := Lib.hid hb2; have HN2 := Lib.hid hn2; clear hr2 hb2 hn2))
  (try simp only [Exit.inBlock, Exit.then]); refine bodyPost_ret (results_cell_row (P := Tryz.prog) rfl _ _ w.heap.size _ _ _ _ rfl (set4 HR2.out _ _ _ _) Tryz.underlying35 rfl (by kernel_rfl)) rfl ?_
  have hB1 : Below w.heap.size w w1 := HA.out.trans (HB1.out.mono HA.out.size)
  have hB2 : Below w1.heap.size w1 (w1.alloc (.cells #[.int .u8 (vN x).kind, .int .i64 (vN x).num, .string (vN x).name, .slice ka (vN x).kids.length kc] 35)) := bel_alloc (Below.refl _ _)
  exact fin_L (x := pushS x s) (nd_mono HN2.out (newC_out (by simp; omega))) (Nat.le_refl _) (by omega) (hB1.trans ((hB2.trans (HB2.out.mono hB2.size)).mono hB1.size)) _ _ _ _
set_option maxRecDepth 100000 in
set_option maxHeartbeats 1600000 in
theorem pop_L (A : Nat → Prop) (x s : ByteArray) (hx : x.size ≤ maxLen) (hs : s.size ≤ maxLen) (w : World) : Calls Tryz.prog 146 #[.string x, .string s] w (NdR A (popS x s) w) := by
  have hA : Below w.heap.size w (w.alloc (.cells #[.int .u8 0, .int .i64 0, .string ⟨#[]⟩, .slice none 0 0] 35)) := bel_alloc (Below.refl _ _)
  have HV := Lib.hid (variable_L (NewC A w 1) x hx (w.alloc (.cells #[.int .u8 0, .int .i64 0, .string ⟨#[]⟩, .slice none 0 0] 35)))
  have HB := Lib.hid (at_new0 w (.cells #[.int .u8 0, .int .i64 0, .string ⟨#[]⟩, .slice none 0 0] 35))
  have hws : (w.alloc (.cells #[.int .u8 0, .int .i64 0, .string ⟨#[]⟩, .slice none 0 0] 35)).heap.size = w.heap.size + 1 := by simp
  have HA := Lib.hid hA
  have HNM := Lib.hid (fun (w1 : World) (ka : Option Addr) (kc : Nat) (hn : NdAt (NewC A w 1) w1 (.agg #[.int .u8 (vN x).kind, .int .i64 (vN x).num, .string (vN x).name, .slice ka (vN x).kids.length kc]) (vN x)) (hz : w.heap.size + 1 ≤ w1.heap.size) =>
    named_L (NewC A w 1) 45 (by omega) s hs [vN x] 1 rfl (some ⟨w1.heap.size, 0, none⟩) 1 (w1.alloc (.cells #[.int .u8 (vN x).kind, .int .i64 (vN x).num, .string (vN x).name, .slice ka (vN x).kids.length kc] 35)) (kids_1 (at_new0 w1 (.cells #[.int .u8 (vN x).kind, .int .i64 (vN x).num, .string (vN x).name, .slice ka (vN x).kids.length kc] 35)) (.inr hz) (hn.stays (Stays.of_below (bel_alloc (Below.refl _ _))))))
  clear hA
  go_enter Tryz.func146, Tryz.ntmps146
  go_wp2_with (first
    | (go_at_call 137; refine HV.out.mono ?_; rintro e w1 ⟨ka, kc, rfl, hn, hb⟩; have hr := blk_below hb HB.out; have HR1 := Lib.hid hr; have HB1 := Lib.hid hb; have hz1 : w.heap.size + 1 ≤ w1.heap.size := by { have := hb.size; omega }; have HN1 := Lib.hid (nd_mono hn (newC_out (by omega))); clear hr hb hn)
    | (go_at_call 141; refine (HNM.out w1 ka kc HN1.out hz1).mono ?_; rintro e w2 ⟨ka2, kc2, rfl, hn2, hb2⟩; have hr2 := blk_below hb2 (blk_below (bel_alloc (Below.refl _ _)) HR1.out); obtain ⟨r0, r1, r2, r3⟩ := cells4 hr2; have f := unfrozen hr2; have HR2 := Lib.hid hr2; have HB2 := Lib.hid hb2; have HN2 := Lib.hid hn2; clear hr2 hb2 hn2))
  (try simp only [Exit.inBlock, Exit.then]); refine bodyPost_ret (results_cell_row (P := Tryz.prog) rfl _ _ w.heap.size _ _ _ _ rfl (set4 HR2.out _ _ _ _) Tryz.underlying35 rfl (by kernel_rfl)) rfl ?_
  have hB1 : Below w.heap.size w w1 := HA.out.trans (HB1.out.mono HA.out.size)
  have hB2 : Below w1.heap.size w1 (w1.alloc (.cells #[.int .u8 (vN x).kind, .int .i64 (vN x).num, .string (vN x).name, .slice ka (vN x).kids.length kc] 35)) := bel_alloc (Below.refl _ _)
  exact fin_L (x := popS x s) (nd_mono HN2.out (newC_out (by simp; omega))) (Nat.le_refl _) (by omega) (hB1.trans ((hB2.trans (HB2.out.mono hB2.size)).mono hB1.size)) _ _ _ _
end Go.Proofs.YtkemieppamdniaaGreatDoor
namespace Go.Proofs.YtkemieppamdniaaGreatDoor
set_option linter.unusedVariables false
set_option linter.unusedSimpArgs false
open Go.RowKit

theorem blk_s4L {w : World} {g b : Nat} {y : Obj} (h : w.heap[b]? = some y) (hne : b ≠ g) (x0 x1 x2 x3 : Value) : ((((w.setCell ⟨g, 0, none⟩ x0).setCell ⟨g, 1, none⟩ x1).setCell ⟨g, 2, none⟩ x2).setCell ⟨g, 3, none⟩ x3).heap[b]? = some y := by
  have hb : b < w.heap.size := by rw [Array.getElem?_eq_some_iff] at h; exact h.1
  have h1 := ((keeps_set w g 0 x0).same (keeps_set _ g 1 x1)).same ((keeps_set _ g 2 x2).same (keeps_set _ g 3 x3))
  rw [h1.block b hb hne]; exact h
theorem at_third (w : World) (A B C : Obj) : (((w.alloc A).alloc B).alloc C).heap[w.heap.size]? = some A ∧ (((w.alloc A).alloc B).alloc C).heap[w.heap.size + 1]? = some B ∧ (((w.alloc A).alloc B).alloc C).heap[w.heap.size + 1 + 1]? = some C := by
  have hb : Below ((w.alloc A).alloc B).heap.size ((w.alloc A).alloc B) (((w.alloc A).alloc B).alloc C) := bel_alloc (Below.refl _ _)
  have hz : ((w.alloc A).alloc B).heap.size = w.heap.size + 1 + 1 := by simp
  have h := at_new0 ((w.alloc A).alloc B) C
  rw [hz] at h
  exact ⟨blk_below hb (at_old w A B), blk_below hb (at_new w A B), h⟩
set_option maxRecDepth 100000 in
set_option maxHeartbeats 3200000 in
theorem local_L (A : Nat → Prop) (t : ByteArray) (ht : t.size ≤ maxLen) (a c : Nd) (l : List Nd) (n : Nat) (hln : n = l.length) (ka : Option Addr) (kc : Nat) (kb : Option Addr) (kd : Nat) (ja : Option Addr) (jc : Nat) (w : World) (ha : NdAt A w (.agg #[.int .u8 a.kind, .int .i64 a.num, .string a.name, .slice ka a.kids.length kc]) a) (hc : NdAt A w (.agg #[.int .u8 c.kind, .int .i64 c.num, .string c.name, .slice kb c.kids.length kd]) c) (hl : KidsAt A w (.slice ja n jc) l) :
    Calls Tryz.prog 136 #[.string t, (.agg #[.int .u8 a.kind, .int .i64 a.num, .string a.name, .slice ka a.kids.length kc]), (.agg #[.int .u8 c.kind, .int .i64 c.num, .string c.name, .slice kb c.kids.length kd]), .slice ja n jc] w (NdR A (localS t a c l) w) := by
  have hA : Below w.heap.size w (((w.alloc (.cells #[.int .u8 a.kind, .int .i64 a.num, .string a.name, .slice ka a.kids.length kc] 35)).alloc (.cells #[.int .u8 c.kind, .int .i64 c.num, .string c.name, .slice kb c.kids.length kd] 35)).alloc (.cells #[.int .u8 0, .int .i64 0, .string ⟨#[]⟩, .slice none 0 0] 35)) := bel_alloc (bel_alloc (bel_alloc (Below.refl _ _)))
  obtain ⟨hO, hM, hN⟩ := at_third w (.cells #[.int .u8 a.kind, .int .i64 a.num, .string a.name, .slice ka a.kids.length kc] 35) (.cells #[.int .u8 c.kind, .int .i64 c.num, .string c.name, .slice kb c.kids.length kd] 35) (.cells #[.int .u8 0, .int .i64 0, .string ⟨#[]⟩, .slice none 0 0] 35)
  have hz : (((w.alloc (.cells #[.int .u8 a.kind, .int .i64 a.num, .string a.name, .slice ka a.kids.length kc] 35)).alloc (.cells #[.int .u8 c.kind, .int .i64 c.num, .string c.name, .slice kb c.kids.length kd] 35)).alloc (.cells #[.int .u8 0, .int .i64 0, .string ⟨#[]⟩, .slice none 0 0] 35)).heap.size = w.heap.size + 3 := by simp
  have HAD := Lib.hid ((nd_in ha 3).stays (Stays.of_below hA))
  have HCD := Lib.hid ((nd_in hc 3).stays (Stays.of_below hA))
  have HLD := Lib.hid ((kids_in hl 3).stays (Stays.of_below hA))
  have HA := Lib.hid hA
  have HLN := Lib.hid hln
  clear ha hc hl hA hln
  go_enter Tryz.func136, Tryz.ntmps136
  go_upto_region 1 with fail
  generalize (((w.alloc (.cells #[.int .u8 a.kind, .int .i64 a.num, .string a.name, .slice ka a.kids.length kc] 35)).alloc (.cells #[.int .u8 c.kind, .int .i64 c.num, .string c.name, .slice kb c.kids.length kd] 35)).alloc (.cells #[.int .u8 0, .int .i64 0, .string ⟨#[]⟩, .slice none 0 0] 35)) = W at *
  have HX : Hid (∀ w1, Below W.heap.size W w1 → (w1.cell? ⟨w.heap.size, 0, none⟩ = some (.int .u8 a.kind) ∧ w1.cell? ⟨w.heap.size, 1, none⟩ = some (.int .i64 a.num) ∧ w1.cell? ⟨w.heap.size, 2, none⟩ = some (.string a.name) ∧ w1.cell? ⟨w.heap.size, 3, none⟩ = some (.slice ka a.kids.length kc)) ∧ (w1.cell? ⟨w.heap.size + 1, 0, none⟩ = some (.int .u8 c.kind) ∧ w1.cell? ⟨w.heap.size + 1, 1, none⟩ = some (.int .i64 c.num) ∧ w1.cell? ⟨w.heap.size + 1, 2, none⟩ = some (.string c.name) ∧ w1.cell? ⟨w.heap.size + 1, 3, none⟩ = some (.slice kb c.kids.length kd))) := Lib.hid (fun w1 h => ⟨cells4 (blk_below h hO), cells4 (blk_below h hM)⟩)
  have HX2 : Hid (∀ w1, Below W.heap.size W w1 → ∀ y0 y1 y2 y3, ((((((w1.setCell ⟨w.heap.size + 1 + 1, 0, none⟩ y0).setCell ⟨w.heap.size + 1 + 1, 1, none⟩ y1).setCell ⟨w.heap.size + 1 + 1, 2, none⟩ y2).setCell ⟨w.heap.size + 1 + 1, 3, none⟩ y3)).cell? ⟨w.heap.size, 0, none⟩ = some (.int .u8 a.kind) ∧ (((((w1.setCell ⟨w.heap.size + 1 + 1, 0, none⟩ y0).setCell ⟨w.heap.size + 1 + 1, 1, none⟩ y1).setCell ⟨w.heap.size + 1 + 1, 2, none⟩ y2).setCell ⟨w.heap.size + 1 + 1, 3, none⟩ y3)).cell? ⟨w.heap.size, 1, none⟩ = some (.int .i64 a.num) ∧ (((((w1.setCell ⟨w.heap.size + 1 + 1, 0, none⟩ y0).setCell ⟨w.heap.size + 1 + 1, 1, none⟩ y1).setCell ⟨w.heap.size + 1 + 1, 2, none⟩ y2).setCell ⟨w.heap.size + 1 + 1, 3, none⟩ y3)).cell? ⟨w.heap.size, 2, none⟩ = some (.string a.name) ∧ (((((w1.setCell ⟨w.heap.size + 1 + 1, 0, none⟩ y0).setCell ⟨w.heap.size + 1 + 1, 1, none⟩ y1).setCell ⟨w.heap.size + 1 + 1, 2, none⟩ y2).setCell ⟨w.heap.size + 1 + 1, 3, none⟩ y3)).cell? ⟨w.heap.size, 3, none⟩ = some (.slice ka a.kids.length kc)) ∧ ((((((w1.setCell ⟨w.heap.size + 1 + 1, 0, none⟩ y0).setCell ⟨w.heap.size + 1 + 1, 1, none⟩ y1).setCell ⟨w.heap.size + 1 + 1, 2, none⟩ y2).setCell ⟨w.heap.size + 1 + 1, 3, none⟩ y3)).cell? ⟨w.heap.size + 1, 0, none⟩ = some (.int .u8 c.kind) ∧ (((((w1.setCell ⟨w.heap.size + 1 + 1, 0, none⟩ y0).setCell ⟨w.heap.size + 1 + 1, 1, none⟩ y1).setCell ⟨w.heap.size + 1 + 1, 2, none⟩ y2).setCell ⟨w.heap.size + 1 + 1, 3, none⟩ y3)).cell? ⟨w.heap.size + 1, 1, none⟩ = some (.int .i64 c.num) ∧ (((((w1.setCell ⟨w.heap.size + 1 + 1, 0, none⟩ y0).setCell ⟨w.heap.size + 1 + 1, 1, none⟩ y1).setCell ⟨w.heap.size + 1 + 1, 2, none⟩ y2).setCell ⟨w.heap.size + 1 + 1, 3, none⟩ y3)).cell? ⟨w.heap.size + 1, 2, none⟩ = some (.string c.name) ∧ (((((w1.setCell ⟨w.heap.size + 1 + 1, 0, none⟩ y0).setCell ⟨w.heap.size + 1 + 1, 1, none⟩ y1).setCell ⟨w.heap.size + 1 + 1, 2, none⟩ y2).setCell ⟨w.heap.size + 1 + 1, 3, none⟩ y3)).cell? ⟨w.heap.size + 1, 3, none⟩ = some (.slice kb c.kids.length kd))) := Lib.hid (fun w1 h y0 y1 y2 y3 => ⟨cells4 (blk_s4L (blk_below h hO) (by omega) _ _ _ _), cells4 (blk_s4L (blk_below h hM) (by omega) _ _ _ _)⟩)
  have HR : Hid (∀ w1, Below W.heap.size W w1 → w1.heap[w.heap.size + 1 + 1]? = some (.cells #[.int .u8 0, .int .i64 0, .string ⟨#[]⟩, .slice none 0 0] 35)) := Lib.hid (fun w1 h => blk_below h hN)
  have HBL : Hid (∀ w1, Below W.heap.size W w1 → Calls Tryz.prog 140 #[.slice ja n jc] w1 (NdR (NewC A w 3) (blockN l) w1)) := Lib.hid (fun w1 h => block_L _ l n HLN.out ja jc w1 (HLD.out.stays (Stays.of_below h)))
  have HNM := Lib.hid (fun (w1 : World) (kx : Option Addr) (ky : Nat) (hw : Below W.heap.size W w1) (hn : NdAt (NewC A w 3) w1 (.agg #[.int .u8 (blockN l).kind, .int .i64 (blockN l).num, .string (blockN l).name, .slice kx (blockN l).kids.length ky]) (blockN l)) =>
    named_L (NewC A w 3) 54 (by omega) t ht [a, blockN l, c] 3 rfl (some ⟨w1.heap.size, 0, none⟩) 3 (w1.alloc (.cells #[.int .u8 a.kind, .int .i64 a.num, .string a.name, .slice ka a.kids.length kc, .int .u8 (blockN l).kind, .int .i64 (blockN l).num, .string (blockN l).name, .slice kx (blockN l).kids.length ky, .int .u8 c.kind, .int .i64 c.num, .string c.name, .slice kb c.kids.length kd] 35))
      (kids_3 (at_new0 w1 _) (.inr (by have := hw.size; omega)) ((HAD.out.stays (Stays.of_below hw)).stays (Stays.of_below (bel_alloc (Below.refl _ _)))) (hn.stays (Stays.of_below (bel_alloc (Below.refl _ _)))) ((HCD.out.stays (Stays.of_below hw)).stays (Stays.of_below (bel_alloc (Below.refl _ _))))))
  clear hO hM hN
  go_region_held3 (fun w1 => (w1.cell? ⟨w.heap.size, 0, none⟩ = some (.int .u8 a.kind) ∧ w1.cell? ⟨w.heap.size, 1, none⟩ = some (.int .i64 a.num) ∧ w1.cell? ⟨w.heap.size, 2, none⟩ = some (.string a.name) ∧ w1.cell? ⟨w.heap.size, 3, none⟩ = some (.slice ka a.kids.length kc)) ∧ (w1.cell? ⟨w.heap.size + 1, 0, none⟩ = some (.int .u8 c.kind) ∧ w1.cell? ⟨w.heap.size + 1, 1, none⟩ = some (.int .i64 c.num) ∧ w1.cell? ⟨w.heap.size + 1, 2, none⟩ = some (.string c.name) ∧ w1.cell? ⟨w.heap.size + 1, 3, none⟩ = some (.slice kb c.kids.length kd)))
    (first | with_reducible exact HX2.out _ HW2.out _ _ _ _ | with_reducible exact HX.out _ (by (repeat (with_reducible first | exact Below.refl _ _ | refine bel_drew ?_ | refine bel_alloc ?_ | (apply bel_step; focus assumption)))))
    (first
    | (go_at_call 140; (with_reducible refine (HBL.out _ (by (repeat (with_reducible first | exact Below.refl _ _ | refine bel_drew ?_ | refine bel_alloc ?_ | (apply bel_step; focus assumption))))).mono ?_); rintro e w1 ⟨kx, ky, rfl, hn1, hb1⟩; have HW1 : Hid (Below W.heap.size W w1) := Lib.hid (by (repeat (with_reducible first | exact Below.refl _ _ | refine bel_drew ?_ | refine bel_alloc ?_ | (apply bel_step; focus assumption)))); have HN1 := Lib.hid (nd_mono hn1 (newC_out (by first | omega | (simp; omega)))); clear hn1)
    | (go_at_call 141; (with_reducible refine (HNM.out w1 kx ky HW1.out HN1.out).mono ?_); rintro e w2 ⟨k2, k3, rfl, hn2, hb2⟩; have HW2 : Hid (Below W.heap.size W w2) := Lib.hid (by (repeat (with_reducible first | exact Below.refl _ _ | refine bel_drew ?_ | refine bel_alloc ?_ | (apply bel_step; focus assumption)))); have hr2 := HR.out w2 HW2.out; obtain ⟨r0, r1, r2, r3⟩ := cells4 hr2; have f := unfrozen hr2; have HR2 := Lib.hid hr2; have HN2 := Lib.hid hn2; clear hn2 hr2))
  all_goals
    go_wp2
    (try simp only [Exit.inBlock, Exit.then]); refine bodyPost_ret (results_cell_row (P := Tryz.prog) rfl _ _ (w.heap.size + 1 + 1) _ _ _ _ rfl (set4 HR2.out _ _ _ _) Tryz.underlying35 rfl (by kernel_rfl)) rfl ?_
    exact fin_L (x := localS t a c l) (nd_mono HN2.out (newC_out (by have := HW1.out.size; simp; omega))) (by omega) (by omega) (HA.out.trans (HW2.out.mono HA.out.size)) _ _ _ _
set_option maxRecDepth 100000 in
set_option maxHeartbeats 3200000 in
theorem loop_L (A : Nat → Prop) (a c : Nd) (l : List Nd) (n : Nat) (hln : n = l.length) (ka : Option Addr) (kc : Nat) (kb : Option Addr) (kd : Nat) (ja : Option Addr) (jc : Nat) (w : World) (ha : NdAt A w (.agg #[.int .u8 a.kind, .int .i64 a.num, .string a.name, .slice ka a.kids.length kc]) a) (hc : NdAt A w (.agg #[.int .u8 c.kind, .int .i64 c.num, .string c.name, .slice kb c.kids.length kd]) c) (hl : KidsAt A w (.slice ja n jc) l) :
    Calls Tryz.prog 142 #[(.agg #[.int .u8 a.kind, .int .i64 a.num, .string a.name, .slice ka a.kids.length kc]), (.agg #[.int .u8 c.kind, .int .i64 c.num, .string c.name, .slice kb c.kids.length kd]), .slice ja n jc] w (NdR A (loopS a c l) w) := by
  have hA : Below w.heap.size w (((w.alloc (.cells #[.int .u8 a.kind, .int .i64 a.num, .string a.name, .slice ka a.kids.length kc] 35)).alloc (.cells #[.int .u8 c.kind, .int .i64 c.num, .string c.name, .slice kb c.kids.length kd] 35)).alloc (.cells #[.int .u8 0, .int .i64 0, .string ⟨#[]⟩, .slice none 0 0] 35)) := bel_alloc (bel_alloc (bel_alloc (Below.refl _ _)))
  obtain ⟨hO, hM, hN⟩ := at_third w (.cells #[.int .u8 a.kind, .int .i64 a.num, .string a.name, .slice ka a.kids.length kc] 35) (.cells #[.int .u8 c.kind, .int .i64 c.num, .string c.name, .slice kb c.kids.length kd] 35) (.cells #[.int .u8 0, .int .i64 0, .string ⟨#[]⟩, .slice none 0 0] 35)
  have hz : (((w.alloc (.cells #[.int .u8 a.kind, .int .i64 a.num, .string a.name, .slice ka a.kids.length kc] 35)).alloc (.cells #[.int .u8 c.kind, .int .i64 c.num, .string c.name, .slice kb c.kids.length kd] 35)).alloc (.cells #[.int .u8 0, .int .i64 0, .string ⟨#[]⟩, .slice none 0 0] 35)).heap.size = w.heap.size + 3 := by simp
  have HAD := Lib.hid ((nd_in ha 3).stays (Stays.of_below hA))
  have HCD := Lib.hid ((nd_in hc 3).stays (Stays.of_below hA))
  have HLD := Lib.hid ((kids_in hl 3).stays (Stays.of_below hA))
  have HA := Lib.hid hA
  have HLN := Lib.hid hln
  clear ha hc hl hA hln
  go_enter Tryz.func142, Tryz.ntmps142
  go_upto_region 1 with fail
  generalize (((w.alloc (.cells #[.int .u8 a.kind, .int .i64 a.num, .string a.name, .slice ka a.kids.length kc] 35)).alloc (.cells #[.int .u8 c.kind, .int .i64 c.num, .string c.name, .slice kb c.kids.length kd] 35)).alloc (.cells #[.int .u8 0, .int .i64 0, .string ⟨#[]⟩, .slice none 0 0] 35)) = W at *
  have HX : Hid (∀ w1, Below W.heap.size W w1 → (w1.cell? ⟨w.heap.size, 0, none⟩ = some (.int .u8 a.kind) ∧ w1.cell? ⟨w.heap.size, 1, none⟩ = some (.int .i64 a.num) ∧ w1.cell? ⟨w.heap.size, 2, none⟩ = some (.string a.name) ∧ w1.cell? ⟨w.heap.size, 3, none⟩ = some (.slice ka a.kids.length kc)) ∧ (w1.cell? ⟨w.heap.size + 1, 0, none⟩ = some (.int .u8 c.kind) ∧ w1.cell? ⟨w.heap.size + 1, 1, none⟩ = some (.int .i64 c.num) ∧ w1.cell? ⟨w.heap.size + 1, 2, none⟩ = some (.string c.name) ∧ w1.cell? ⟨w.heap.size + 1, 3, none⟩ = some (.slice kb c.kids.length kd))) := Lib.hid (fun w1 h => ⟨cells4 (blk_below h hO), cells4 (blk_below h hM)⟩)
  have HR : Hid (∀ w1, Below W.heap.size W w1 → w1.heap[w.heap.size + 1 + 1]? = some (.cells #[.int .u8 0, .int .i64 0, .string ⟨#[]⟩, .slice none 0 0] 35)) := Lib.hid (fun w1 h => blk_below h hN)
  have HX2 : Hid (∀ w1, Below W.heap.size W w1 → ∀ y0 y1 y2 y3, ((((((w1.setCell ⟨w.heap.size + 1 + 1, 0, none⟩ y0).setCell ⟨w.heap.size + 1 + 1, 1, none⟩ y1).setCell ⟨w.heap.size + 1 + 1, 2, none⟩ y2).setCell ⟨w.heap.size + 1 + 1, 3, none⟩ y3)).cell? ⟨w.heap.size, 0, none⟩ = some (.int .u8 a.kind) ∧ (((((w1.setCell ⟨w.heap.size + 1 + 1, 0, none⟩ y0).setCell ⟨w.heap.size + 1 + 1, 1, none⟩ y1).setCell ⟨w.heap.size + 1 + 1, 2, none⟩ y2).setCell ⟨w.heap.size + 1 + 1, 3, none⟩ y3)).cell? ⟨w.heap.size, 1, none⟩ = some (.int .i64 a.num) ∧ (((((w1.setCell ⟨w.heap.size + 1 + 1, 0, none⟩ y0).setCell ⟨w.heap.size + 1 + 1, 1, none⟩ y1).setCell ⟨w.heap.size + 1 + 1, 2, none⟩ y2).setCell ⟨w.heap.size + 1 + 1, 3, none⟩ y3)).cell? ⟨w.heap.size, 2, none⟩ = some (.string a.name) ∧ (((((w1.setCell ⟨w.heap.size + 1 + 1, 0, none⟩ y0).setCell ⟨w.heap.size + 1 + 1, 1, none⟩ y1).setCell ⟨w.heap.size + 1 + 1, 2, none⟩ y2).setCell ⟨w.heap.size + 1 + 1, 3, none⟩ y3)).cell? ⟨w.heap.size, 3, none⟩ = some (.slice ka a.kids.length kc)) ∧ ((((((w1.setCell ⟨w.heap.size + 1 + 1, 0, none⟩ y0).setCell ⟨w.heap.size + 1 + 1, 1, none⟩ y1).setCell ⟨w.heap.size + 1 + 1, 2, none⟩ y2).setCell ⟨w.heap.size + 1 + 1, 3, none⟩ y3)).cell? ⟨w.heap.size + 1, 0, none⟩ = some (.int .u8 c.kind) ∧ (((((w1.setCell ⟨w.heap.size + 1 + 1, 0, none⟩ y0).setCell ⟨w.heap.size + 1 + 1, 1, none⟩ y1).setCell ⟨w.heap.size + 1 + 1, 2, none⟩ y2).setCell ⟨w.heap.size + 1 + 1, 3, none⟩ y3)).cell? ⟨w.heap.size + 1, 1, none⟩ = some (.int .i64 c.num) ∧ (((((w1.setCell ⟨w.heap.size + 1 + 1, 0, none⟩ y0).setCell ⟨w.heap.size + 1 + 1, 1, none⟩ y1).setCell ⟨w.heap.size + 1 + 1, 2, none⟩ y2).setCell ⟨w.heap.size + 1 + 1, 3, none⟩ y3)).cell? ⟨w.heap.size + 1, 2, none⟩ = some (.string c.name) ∧ (((((w1.setCell ⟨w.heap.size + 1 + 1, 0, none⟩ y0).setCell ⟨w.heap.size + 1 + 1, 1, none⟩ y1).setCell ⟨w.heap.size + 1 + 1, 2, none⟩ y2).setCell ⟨w.heap.size + 1 + 1, 3, none⟩ y3)).cell? ⟨w.heap.size + 1, 3, none⟩ = some (.slice kb c.kids.length kd))) := Lib.hid (fun w1 h y0 y1 y2 y3 => ⟨cells4 (blk_s4L (blk_below h hO) (by omega) _ _ _ _), cells4 (blk_s4L (blk_below h hM) (by omega) _ _ _ _)⟩)
  have HBL : Hid (∀ w1, Below W.heap.size W w1 → Calls Tryz.prog 140 #[.slice ja n jc] w1 (NdR (NewC A w 3) (blockN l) w1)) := Lib.hid (fun w1 h => block_L _ l n HLN.out ja jc w1 (HLD.out.stays (Stays.of_below h)))
  have HB0 : Hid (∀ w1, Below W.heap.size W w1 → Calls Tryz.prog 140 #[.slice none 0 0] w1 (NdR (NewC A w 3) (blockN []) w1)) := Lib.hid (fun w1 h => block_L _ [] 0 rfl none 0 w1 (KidsAt.nil _))
  clear hO hM hN
  go_region_held3 (fun w1 => (w1.cell? ⟨w.heap.size, 0, none⟩ = some (.int .u8 a.kind) ∧ w1.cell? ⟨w.heap.size, 1, none⟩ = some (.int .i64 a.num) ∧ w1.cell? ⟨w.heap.size, 2, none⟩ = some (.string a.name) ∧ w1.cell? ⟨w.heap.size, 3, none⟩ = some (.slice ka a.kids.length kc)) ∧ (w1.cell? ⟨w.heap.size + 1, 0, none⟩ = some (.int .u8 c.kind) ∧ w1.cell? ⟨w.heap.size + 1, 1, none⟩ = some (.int .i64 c.num) ∧ w1.cell? ⟨w.heap.size + 1, 2, none⟩ = some (.string c.name) ∧ w1.cell? ⟨w.heap.size + 1, 3, none⟩ = some (.slice kb c.kids.length kd)))
    (first | with_reducible exact HX2.out _ HW3.out _ _ _ _ | with_reducible exact HX.out _ (by (repeat (with_reducible first | exact Below.refl _ _ | refine bel_drew ?_ | refine bel_alloc ?_ | (apply bel_step; focus assumption)))))
    (first
    | (go_at_call 140; (with_reducible refine (HB0.out _ (by (repeat (with_reducible first | exact Below.refl _ _ | refine bel_drew ?_ | refine bel_alloc ?_ | (apply bel_step; focus assumption))))).mono ?_); rintro e w1 ⟨kx, ky, rfl, hn1, hb1⟩; have HW1 : Hid (Below W.heap.size W w1) := Lib.hid (by (repeat (with_reducible first | exact Below.refl _ _ | refine bel_drew ?_ | refine bel_alloc ?_ | (apply bel_step; focus assumption)))); have HN1 := Lib.hid (nd_mono hn1 (newC_out (by first | omega | (simp; omega)))); clear hn1)
    | (go_at_call 140; (with_reducible refine (HBL.out _ (by (repeat (with_reducible first | exact Below.refl _ _ | refine bel_drew ?_ | refine bel_alloc ?_ | (apply bel_step; focus assumption))))).mono ?_); rintro e w2 ⟨kx2, ky2, rfl, hn2, hb2⟩; have HW2 : Hid (Below W.heap.size W w2) := Lib.hid (by (repeat (with_reducible first | exact Below.refl _ _ | refine bel_drew ?_ | refine bel_alloc ?_ | (apply bel_step; focus assumption)))); have HN2 := Lib.hid (nd_mono hn2 (newC_out (by have := HW1.out.size; first | omega | (simp; omega)))); clear hn2;
        have HW3 : Hid (Below W.heap.size W (w2.alloc (.cells #[.int .u8 a.kind, .int .i64 a.num, .string a.name, .slice ka a.kids.length kc, .int .u8 (blockN []).kind, .int .i64 (blockN []).num, .string (blockN []).name, .slice kx (blockN []).kids.length ky, .int .u8 (blockN l).kind, .int .i64 (blockN l).num, .string (blockN l).name, .slice kx2 (blockN l).kids.length ky2, .int .u8 c.kind, .int .i64 c.num, .string c.name, .slice kb c.kids.length kd] 35))) := Lib.hid (bel_alloc HW2.out);
        have hr2 := HR.out _ HW3.out; obtain ⟨r0, r1, r2, r3⟩ := cells4 hr2; have f := unfrozen hr2; have HR2 := Lib.hid hr2; clear hr2))
  all_goals
    go_wp2
    (try simp only [Exit.inBlock, Exit.then]); refine bodyPost_ret (results_cell_row (P := Tryz.prog) rfl _ _ (w.heap.size + 1 + 1) _ _ _ _ rfl (set4 HR2.out _ _ _ _) Tryz.underlying35 rfl (by kernel_rfl)) rfl ?_
    exact fin_L (x := loopS a c l) (nd_node (k := 53) (s := ⟨#[]⟩) (l := [a, blockN [], blockN l, c]) (kids_4 (at_new0 w2 _) (.inr (by have := HW2.out.size; omega)) (HAD.out.stays (Stays.of_below HW3.out)) (HN1.out.stays (Stays.of_below (by (repeat (with_reducible first | exact Below.refl _ _ | refine bel_drew ?_ | refine bel_alloc ?_ | (apply bel_step; focus assumption)))))) (HN2.out.stays (Stays.of_below (by (repeat (with_reducible first | exact Below.refl _ _ | refine bel_drew ?_ | refine bel_alloc ?_ | (apply bel_step; focus assumption)))))) (HCD.out.stays (Stays.of_below HW3.out))) (by omega) (Nat.zero_le _)) (by omega) (by omega) (HA.out.trans (HW3.out.mono HA.out.size)) _ _ _ _
set_option maxRecDepth 100000 in
set_option maxHeartbeats 3200000 in
theorem move_L (A : Nat → Prop) (x y : ByteArray) (hx : x.size ≤ maxLen) (hy : y.size ≤ maxLen) (w : World) : Calls Tryz.prog 145 #[.string x, .string y] w (NdR A (moveS x y) w) := by
  have hA : Below w.heap.size w (w.alloc (.cells #[.int .u8 0, .int .i64 0, .string ⟨#[]⟩, .slice none 0 0] 35)) := bel_alloc (Below.refl _ _)
  have hz : (w.alloc (.cells #[.int .u8 0, .int .i64 0, .string ⟨#[]⟩, .slice none 0 0] 35)).heap.size = w.heap.size + 1 := by simp
  have hN := at_new0 w (.cells #[.int .u8 0, .int .i64 0, .string ⟨#[]⟩, .slice none 0 0] 35)
  have hxs : xS.size ≤ maxLen := by unfold maxLen; decide
  have HA := Lib.hid hA
  clear hA
  go_enter Tryz.func145, Tryz.ntmps145
  go_upto_region 1 with fail
  generalize (w.alloc (.cells #[.int .u8 0, .int .i64 0, .string ⟨#[]⟩, .slice none 0 0] 35)) = W at *
  have HR : Hid (∀ w1, Below W.heap.size W w1 → w1.heap[w.heap.size]? = some (.cells #[.int .u8 0, .int .i64 0, .string ⟨#[]⟩, .slice none 0 0] 35)) := Lib.hid (fun w1 h => blk_below h hN)
  have HNU : Hid (∀ w1, Calls Tryz.prog 138 #[.int .i64 0] w1 (NdR (NewC A w 1) (numN 0) w1)) := Lib.hid (fun w1 => number_L _ 0 (by unfold In64; omega) w1)
  have HPO : Hid (∀ w1, Calls Tryz.prog 146 #[.string ⟨#[120]⟩, .string x] w1 (NdR (NewC A w 1) (popS xS x) w1)) := Lib.hid (fun w1 => pop_L _ xS x hxs hx w1)
  have HPU : Hid (∀ w1, Calls Tryz.prog 139 #[.string ⟨#[120]⟩, .string y] w1 (NdR (NewC A w 1) (pushS xS y) w1)) := Lib.hid (fun w1 => push_L _ xS y hxs hy w1)
  have HLO := Lib.hid (fun (w1 : World) (k1 : Option Addr) (k2 : Nat) (k3 : Option Addr) (k4 : Nat) (k5 : Option Addr) (k6 : Nat) (k7 : Option Addr) (k8 : Nat) (hw : Below W.heap.size W w1) (h1 : NdAt (NewC A w 1) w1 (.agg #[.int .u8 (numN 0).kind, .int .i64 (numN 0).num, .string (numN 0).name, .slice k1 (numN 0).kids.length k2]) (numN 0)) (h2 : NdAt (NewC A w 1) w1 (.agg #[.int .u8 (numN 0).kind, .int .i64 (numN 0).num, .string (numN 0).name, .slice k3 (numN 0).kids.length k4]) (numN 0)) (h3 : NdAt (NewC A w 1) w1 (.agg #[.int .u8 (popS xS x).kind, .int .i64 (popS xS x).num, .string (popS xS x).name, .slice k5 (popS xS x).kids.length k6]) (popS xS x)) (h4 : NdAt (NewC A w 1) w1 (.agg #[.int .u8 (pushS xS y).kind, .int .i64 (pushS xS y).num, .string (pushS xS y).name, .slice k7 (pushS xS y).kids.length k8]) (pushS xS y)) =>
    local_L (NewC A w 1) xS hxs (numN 0) (numN 0) [popS xS x, pushS xS y] 2 rfl k1 k2 k3 k4 (some ⟨w1.heap.size, 0, none⟩) 2 (w1.alloc (.cells #[.int .u8 (popS xS x).kind, .int .i64 (popS xS x).num, .string (popS xS x).name, .slice k5 (popS xS x).kids.length k6, .int .u8 (pushS xS y).kind, .int .i64 (pushS xS y).num, .string (pushS xS y).name, .slice k7 (pushS xS y).kids.length k8] 35)) (h1.stays (Stays.of_below (bel_alloc (Below.refl _ _)))) (h2.stays (Stays.of_below (bel_alloc (Below.refl _ _))))
      (kids_2 (at_new0 w1 _) (.inr (by have := hw.size; omega)) (h3.stays (Stays.of_below (bel_alloc (Below.refl _ _)))) (h4.stays (Stays.of_below (bel_alloc (Below.refl _ _))))))
  clear hN
  go_wp2_with (first
    | (go_at_call 136; refine (HLO.out w4 k1 k2 k3 k4 k5 k6 k7 k8 HW4.out (HN1.out _ (by (repeat (with_reducible first | exact Below.refl _ _ | refine bel_drew ?_ | refine bel_alloc ?_ | (apply bel_step; focus assumption))))) (HN2.out _ (by (repeat (with_reducible first | exact Below.refl _ _ | refine bel_drew ?_ | refine bel_alloc ?_ | (apply bel_step; focus assumption))))) (HN3.out _ (by (repeat (with_reducible first | exact Below.refl _ _ | refine bel_drew ?_ | refine bel_alloc ?_ | (apply bel_step; focus assumption))))) (HN4.out _ (Below.refl _ _))).mono ?_; rintro e w5 ⟨k9, k10, rfl, hn5, hb5⟩; have HW5 : Hid (Below W.heap.size W w5) := Lib.hid (by (repeat (with_reducible first | exact Below.refl _ _ | refine bel_drew ?_ | refine bel_alloc ?_ | (apply bel_step; focus assumption)))); have hr := HR.out _ HW5.out; obtain ⟨r0, r1, r2, r3⟩ := cells4 hr; have f := unfrozen hr; have HR5 := Lib.hid hr; have HN5 := Lib.hid hn5; clear hr hn5)
    | (go_at_call 139; refine (HPU.out _).mono ?_; rintro e w4 ⟨k7, k8, rfl, hn4, hb4⟩; have HW4 : Hid (Below W.heap.size W w4) := Lib.hid (by (repeat (with_reducible first | exact Below.refl _ _ | refine bel_drew ?_ | refine bel_alloc ?_ | (apply bel_step; focus assumption)))); have HN4 := Lib.hid (Held.call hn4 (by have := HW3.out.size; omega)); clear hn4)
    | (go_at_call 146; refine (HPO.out _).mono ?_; rintro e w3 ⟨k5, k6, rfl, hn3, hb3⟩; have HW3 : Hid (Below W.heap.size W w3) := Lib.hid (by (repeat (with_reducible first | exact Below.refl _ _ | refine bel_drew ?_ | refine bel_alloc ?_ | (apply bel_step; focus assumption)))); have HN3 := Lib.hid (Held.call hn3 (by have := HW2.out.size; omega)); clear hn3)
    | (have := HW1; go_at_call 138; refine (HNU.out _).mono ?_; rintro e w2 ⟨k3, k4, rfl, hn2, hb2⟩; have HW2 : Hid (Below W.heap.size W w2) := Lib.hid (by (repeat (with_reducible first | exact Below.refl _ _ | refine bel_drew ?_ | refine bel_alloc ?_ | (apply bel_step; focus assumption)))); have HN2 := Lib.hid (Held.call hn2 (by have := HW1.out.size; omega)); clear hn2)
    | (go_at_call 138; refine (HNU.out _).mono ?_; rintro e w1 ⟨k1, k2, rfl, hn1, hb1⟩; have HW1 : Hid (Below W.heap.size W w1) := Lib.hid (by (repeat (with_reducible first | exact Below.refl _ _ | refine bel_drew ?_ | refine bel_alloc ?_ | (apply bel_step; focus assumption)))); have HN1 := Lib.hid (Held.call hn1 (by omega)); clear hn1))
  (try simp only [Exit.inBlock, Exit.then]); refine bodyPost_ret (results_cell_row (P := Tryz.prog) rfl _ _ w.heap.size _ _ _ _ rfl (set4 HR5.out _ _ _ _) Tryz.underlying35 rfl (by kernel_rfl)) rfl ?_
  exact fin_L (x := moveS x y) (nd_mono HN5.out (newC_out (by have := HW4.out.size; simp; omega))) (by omega) (by omega) (HA.out.trans (HW5.out.mono HA.out.size)) _ _ _ _
end Go.Proofs.YtkemieppamdniaaGreatDoor
namespace Go.Proofs.YtkemieppamdniaaGreatDoor
set_option linter.unusedVariables false
set_option linter.unusedSimpArgs false
open Go.RowKit

theorem new_ge {w W w1 : World} {c : Nat} (hb : Below W.heap.size W w1) (hz : W.heap.size = w.heap.size + c) : w.heap.size + c ≤ w1.heap.size := by have := hb.size; omega
/-- the functions that build, with strings of one letter -/
theorem size_1 (A : Nat → Prop) (c : UInt8) (w : World) : Calls Tryz.prog 144 #[.string ⟨#[c]⟩] w (NdR A (sizeS (bstr [c])) w) := size_L A (bstr [c]) (by unfold maxLen; simp [bstr, ByteArray.size]) w
theorem variable_1 (A : Nat → Prop) (c : UInt8) (w : World) : Calls Tryz.prog 137 #[.string ⟨#[c]⟩] w (NdR A (vN (bstr [c])) w) := variable_L A (bstr [c]) (by unfold maxLen; simp [bstr, ByteArray.size]) w
theorem push_1 (A : Nat → Prop) (c d : UInt8) (w : World) : Calls Tryz.prog 139 #[.string ⟨#[c]⟩, .string ⟨#[d]⟩] w (NdR A (pushS (bstr [c]) (bstr [d])) w) := push_L A (bstr [c]) (bstr [d]) (by unfold maxLen; simp [bstr, ByteArray.size]) (by unfold maxLen; simp [bstr, ByteArray.size]) w
theorem pop_1 (A : Nat → Prop) (c d : UInt8) (w : World) : Calls Tryz.prog 146 #[.string ⟨#[c]⟩, .string ⟨#[d]⟩] w (NdR A (popS (bstr [c]) (bstr [d])) w) := pop_L A (bstr [c]) (bstr [d]) (by unfold maxLen; simp [bstr, ByteArray.size]) (by unfold maxLen; simp [bstr, ByteArray.size]) w
theorem move_1 (A : Nat → Prop) (c d : UInt8) (w : World) : Calls Tryz.prog 145 #[.string ⟨#[c]⟩, .string ⟨#[d]⟩] w (NdR A (moveS (bstr [c]) (bstr [d])) w) := move_L A (bstr [c]) (bstr [d]) (by unfold maxLen; simp [bstr, ByteArray.size]) (by unfold maxLen; simp [bstr, ByteArray.size]) w
theorem number_0 (A : Nat → Prop) (w : World) : Calls Tryz.prog 138 #[.int .i64 0] w (NdR A (numN 0) w) := number_L A 0 (by unfold In64; omega) w
theorem local_1 (A : Nat → Prop) (d : UInt8) {a c : Nd} {l : List Nd} {n : Nat} {ka : Option Addr} {kc : Nat} {kb : Option Addr} {kd : Nat} {ja : Option Addr} {jc : Nat} {w : World} (ha : NdAt A w (.agg #[.int .u8 a.kind, .int .i64 a.num, .string a.name, .slice ka a.kids.length kc]) a) (hc : NdAt A w (.agg #[.int .u8 c.kind, .int .i64 c.num, .string c.name, .slice kb c.kids.length kd]) c) (hl : KidsAt A w (.slice ja n jc) l) (hln : n = l.length) :
    Calls Tryz.prog 136 #[.string ⟨#[d]⟩, (.agg #[.int .u8 a.kind, .int .i64 a.num, .string a.name, .slice ka a.kids.length kc]), (.agg #[.int .u8 c.kind, .int .i64 c.num, .string c.name, .slice kb c.kids.length kd]), .slice ja n jc] w (NdR A (localS (bstr [d]) a c l) w) := local_L A (bstr [d]) (by unfold maxLen; simp [bstr, ByteArray.size]) a c l n hln ka kc kb kd ja jc w ha hc hl
theorem loop_1 (A : Nat → Prop) {a c : Nd} {l : List Nd} {n : Nat} {ka : Option Addr} {kc : Nat} {kb : Option Addr} {kd : Nat} {ja : Option Addr} {jc : Nat} {w : World} (ha : NdAt A w (.agg #[.int .u8 a.kind, .int .i64 a.num, .string a.name, .slice ka a.kids.length kc]) a) (hc : NdAt A w (.agg #[.int .u8 c.kind, .int .i64 c.num, .string c.name, .slice kb c.kids.length kd]) c) (hl : KidsAt A w (.slice ja n jc) l) (hln : n = l.length) :
    Calls Tryz.prog 142 #[(.agg #[.int .u8 a.kind, .int .i64 a.num, .string a.name, .slice ka a.kids.length kc]), (.agg #[.int .u8 c.kind, .int .i64 c.num, .string c.name, .slice kb c.kids.length kd]), .slice ja n jc] w (NdR A (loopS a c l) w) := loop_L A a c l n hln ka kc kb kd ja jc w ha hc hl
theorem block_1 (A : Nat → Prop) {l : List Nd} {n : Nat} {ja : Option Addr} {jc : Nat} {w : World} (hl : KidsAt A w (.slice ja n jc) l) (hln : n = l.length) : Calls Tryz.prog 140 #[.slice ja n jc] w (NdR A (blockN l) w) := block_L A l n hln ja jc w hl
theorem named_1 (A : Nat → Prop) (k : Int) (hk : 0 ≤ k ∧ k ≤ 255) (c : UInt8) {l : List Nd} {n : Nat} {ja : Option Addr} {jc : Nat} {w : World} (hl : KidsAt A w (.slice ja n jc) l) (hln : n = l.length) : Calls Tryz.prog 141 #[.int .u8 k, .string ⟨#[c]⟩, .slice ja n jc] w (NdR A (nodeN k (bstr [c]) l) w) := named_L A k hk (bstr [c]) (by unfold maxLen; simp [bstr, ByteArray.size]) l n hln ja jc w hl

set_option maxRecDepth 100000 in
set_option maxHeartbeats 6400000 in
theorem spill_L (A : Nat → Prop) (w : World) : Calls Tryz.prog 102 #[] w (NdR A spillB w) := by
  have hA : Below w.heap.size w (w.alloc (.cells #[.int .u8 0, .int .i64 0, .string ⟨#[]⟩, .slice none 0 0] 35)) := bel_alloc (Below.refl _ _)
  have hz : (w.alloc (.cells #[.int .u8 0, .int .i64 0, .string ⟨#[]⟩, .slice none 0 0] 35)).heap.size = w.heap.size + 1 := by simp
  have hN := at_new0 w (.cells #[.int .u8 0, .int .i64 0, .string ⟨#[]⟩, .slice none 0 0] 35)
  have HA := Lib.hid hA
  clear hA
  go_enter Tryz.func102, Tryz.ntmps102
  go_upto_region 1 with fail
  generalize (w.alloc (.cells #[.int .u8 0, .int .i64 0, .string ⟨#[]⟩, .slice none 0 0] 35)) = W at *
  have HR : Hid (∀ w1, Below W.heap.size W w1 → w1.heap[w.heap.size]? = some (.cells #[.int .u8 0, .int .i64 0, .string ⟨#[]⟩, .slice none 0 0] 35)) := Lib.hid (fun w1 h => blk_below h hN)
  clear hN
  go_wp2_with (first
    | (go_at_call 138; refine (number_0 (NewC A w 1) _).mono ?_; rintro e w9 ⟨k7, k8, rfl, hn9, hb9⟩; have HN9 := Held.call hn9 (new_ge (by (repeat (with_reducible first | exact Below.refl _ _ | refine bel_drew ?_ | refine bel_alloc ?_ | (apply bel_step; focus assumption)))) hz); clear hn9)
    | (go_at_call 144; refine (size_1 (NewC A w 1) _ _).mono ?_; rintro e w9 ⟨k7, k8, rfl, hn9, hb9⟩; have HN9 := Held.call hn9 (new_ge (by (repeat (with_reducible first | exact Below.refl _ _ | refine bel_drew ?_ | refine bel_alloc ?_ | (apply bel_step; focus assumption)))) hz); clear hn9)
    | (go_at_call 137; refine (variable_1 (NewC A w 1) _ _).mono ?_; rintro e w9 ⟨k7, k8, rfl, hn9, hb9⟩; have HN9 := Held.call hn9 (new_ge (by (repeat (with_reducible first | exact Below.refl _ _ | refine bel_drew ?_ | refine bel_alloc ?_ | (apply bel_step; focus assumption)))) hz); clear hn9)
    | (go_at_call 143; refine (equal_L (NewC A w 1) _ _ _ _ _ _ _ (by refine Held.use (by assumption) ?_; exact (by (repeat (with_reducible first | exact Below.refl _ _ | refine bel_drew ?_ | refine bel_alloc ?_ | (apply bel_step; focus assumption))))) (by refine Held.use (by assumption) ?_; exact (by (repeat (with_reducible first | exact Below.refl _ _ | refine bel_drew ?_ | refine bel_alloc ?_ | (apply bel_step; focus assumption)))))).mono ?_; rintro e w9 ⟨k7, k8, rfl, hn9, hb9⟩; have HN9 := Held.call hn9 (new_ge (by (repeat (with_reducible first | exact Below.refl _ _ | refine bel_drew ?_ | refine bel_alloc ?_ | (apply bel_step; focus assumption)))) hz); clear hn9)
    | (go_at_call 145; refine (move_1 (NewC A w 1) _ _ _).mono ?_; rintro e w9 ⟨k7, k8, rfl, hn9, hb9⟩; have HN9 := Held.call hn9 (new_ge (by (repeat (with_reducible first | exact Below.refl _ _ | refine bel_drew ?_ | refine bel_alloc ?_ | (apply bel_step; focus assumption)))) hz); clear hn9)
    | (go_at_call 139; refine (push_1 (NewC A w 1) _ _ _).mono ?_; rintro e w9 ⟨k7, k8, rfl, hn9, hb9⟩; have HN9 := Held.call hn9 (new_ge (by (repeat (with_reducible first | exact Below.refl _ _ | refine bel_drew ?_ | refine bel_alloc ?_ | (apply bel_step; focus assumption)))) hz); clear hn9)
    | (go_at_call 142; refine (loop_1 (NewC A w 1) (by refine Held.use (by assumption) ?_; exact (by (repeat (with_reducible first | exact Below.refl _ _ | refine bel_drew ?_ | refine bel_alloc ?_ | (apply bel_step; focus assumption))))) (by refine Held.use (by assumption) ?_; exact (by (repeat (with_reducible first | exact Below.refl _ _ | refine bel_drew ?_ | refine bel_alloc ?_ | (apply bel_step; focus assumption))))) (kids_1 (at_new0 _ _) (.inr (new_ge (by exact (by (repeat (with_reducible first | exact Below.refl _ _ | refine bel_drew ?_ | refine bel_alloc ?_ | (apply bel_step; focus assumption))))) hz)) (by refine Held.use (by assumption) ?_; exact (by (repeat (with_reducible first | exact Below.refl _ _ | refine bel_drew ?_ | refine bel_alloc ?_ | (apply bel_step; focus assumption)))))) rfl).mono ?_; rintro e w9 ⟨k7, k8, rfl, hn9, hb9⟩; have HN9 := Held.call hn9 (new_ge (by (repeat (with_reducible first | exact Below.refl _ _ | refine bel_drew ?_ | refine bel_alloc ?_ | (apply bel_step; focus assumption)))) hz); clear hn9)
    | (go_at_call 136; refine (local_1 (NewC A w 1) _ (by refine Held.use (by assumption) ?_; exact (by (repeat (with_reducible first | exact Below.refl _ _ | refine bel_drew ?_ | refine bel_alloc ?_ | (apply bel_step; focus assumption))))) (by refine Held.use (by assumption) ?_; exact (by (repeat (with_reducible first | exact Below.refl _ _ | refine bel_drew ?_ | refine bel_alloc ?_ | (apply bel_step; focus assumption))))) (kids_2 (at_new0 _ _) (.inr (new_ge (by exact (by (repeat (with_reducible first | exact Below.refl _ _ | refine bel_drew ?_ | refine bel_alloc ?_ | (apply bel_step; focus assumption))))) hz)) (by refine Held.use (by assumption) ?_; exact (by (repeat (with_reducible first | exact Below.refl _ _ | refine bel_drew ?_ | refine bel_alloc ?_ | (apply bel_step; focus assumption))))) (by refine Held.use (by assumption) ?_; exact (by (repeat (with_reducible first | exact Below.refl _ _ | refine bel_drew ?_ | refine bel_alloc ?_ | (apply bel_step; focus assumption)))))) rfl).mono ?_; rintro e w9 ⟨k7, k8, rfl, hn9, hb9⟩; have HN9 := Held.call hn9 (new_ge (by (repeat (with_reducible first | exact Below.refl _ _ | refine bel_drew ?_ | refine bel_alloc ?_ | (apply bel_step; focus assumption)))) hz); clear hn9)
    | (go_at_call 140; refine (block_1 (NewC A w 1) (kids_1 (at_new0 _ _) (.inr (new_ge (by exact (by (repeat (with_reducible first | exact Below.refl _ _ | refine bel_drew ?_ | refine bel_alloc ?_ | (apply bel_step; focus assumption))))) hz)) (by refine Held.use (by assumption) ?_; exact (by (repeat (with_reducible first | exact Below.refl _ _ | refine bel_drew ?_ | refine bel_alloc ?_ | (apply bel_step; focus assumption)))))) rfl).mono ?_; rintro e w9 ⟨k7, k8, rfl, hn9, hb9⟩; have HW9 : Hid (Below W.heap.size W w9) := Lib.hid (by (repeat (with_reducible first | exact Below.refl _ _ | refine bel_drew ?_ | refine bel_alloc ?_ | (apply bel_step; focus assumption)))); have hr := HR.out _ HW9.out; obtain ⟨r0, r1, r2, r3⟩ := cells4 hr; have f := unfrozen hr; have HR9 := Lib.hid hr; have HN9 := Lib.hid (nd_mono hn9 (newC_out (new_ge (by (repeat (with_reducible first | exact Below.refl _ _ | refine bel_drew ?_ | refine bel_alloc ?_ | (apply bel_step; focus assumption)))) hz))); clear hr hn9))
  (try simp only [Exit.inBlock, Exit.then]); refine bodyPost_ret (results_cell_row (P := Tryz.prog) rfl _ _ w.heap.size _ _ _ _ rfl (set4 HR9.out _ _ _ _) Tryz.underlying35 rfl (by kernel_rfl)) rfl ?_
  exact fin_L (x := spillB) HN9.out (by omega) (by omega) (HA.out.trans (HW9.out.mono HA.out.size)) _ _ _ _
set_option maxRecDepth 100000 in
set_option maxHeartbeats 12800000 in
theorem copy_L (A : Nat → Prop) (w : World) : Calls Tryz.prog 101 #[] w (NdR A copyB w) := by
  have hA : Below w.heap.size w (w.alloc (.cells #[.int .u8 0, .int .i64 0, .string ⟨#[]⟩, .slice none 0 0] 35)) := bel_alloc (Below.refl _ _)
  have hz : (w.alloc (.cells #[.int .u8 0, .int .i64 0, .string ⟨#[]⟩, .slice none 0 0] 35)).heap.size = w.heap.size + 1 := by simp
  have hN := at_new0 w (.cells #[.int .u8 0, .int .i64 0, .string ⟨#[]⟩, .slice none 0 0] 35)
  have HA := Lib.hid hA
  clear hA
  go_enter Tryz.func101, Tryz.ntmps101
  go_upto_region 1 with fail
  generalize (w.alloc (.cells #[.int .u8 0, .int .i64 0, .string ⟨#[]⟩, .slice none 0 0] 35)) = W at *
  have HR : Hid (∀ w1, Below W.heap.size W w1 → w1.heap[w.heap.size]? = some (.cells #[.int .u8 0, .int .i64 0, .string ⟨#[]⟩, .slice none 0 0] 35)) := Lib.hid (fun w1 h => blk_below h hN)
  clear hN
  go_upto_region 2 with (first
    | (go_at_call 138; refine (number_0 (NewC A w 1) _).mono ?_; rintro e w9 ⟨k7, k8, rfl, hn9, hb9⟩; have HN9 := Held.call hn9 (new_ge (by (repeat (with_reducible first | exact Below.refl _ _ | refine bel_drew ?_ | refine bel_alloc ?_ | (apply bel_step; focus assumption)))) hz); clear hn9)
    | (go_at_call 137; refine (variable_1 (NewC A w 1) _ _).mono ?_; rintro e w9 ⟨k7, k8, rfl, hn9, hb9⟩; have HN9 := Held.call hn9 (new_ge (by (repeat (with_reducible first | exact Below.refl _ _ | refine bel_drew ?_ | refine bel_alloc ?_ | (apply bel_step; focus assumption)))) hz); clear hn9)
    | (go_at_call 139; refine (push_1 (NewC A w 1) _ _ _).mono ?_; rintro e w9 ⟨k7, k8, rfl, hn9, hb9⟩; have HN9 := Held.call hn9 (new_ge (by (repeat (with_reducible first | exact Below.refl _ _ | refine bel_drew ?_ | refine bel_alloc ?_ | (apply bel_step; focus assumption)))) hz); clear hn9)
    | (go_at_call 136; refine (local_1 (NewC A w 1) _ (by refine Held.use (by assumption) ?_; exact (by (repeat (with_reducible first | exact Below.refl _ _ | refine bel_drew ?_ | refine bel_alloc ?_ | (apply bel_step; focus assumption))))) (by refine Held.use (by assumption) ?_; exact (by (repeat (with_reducible first | exact Below.refl _ _ | refine bel_drew ?_ | refine bel_alloc ?_ | (apply bel_step; focus assumption))))) (kids_1 (at_new0 _ _) (.inr (new_ge (by exact (by (repeat (with_reducible first | exact Below.refl _ _ | refine bel_drew ?_ | refine bel_alloc ?_ | (apply bel_step; focus assumption))))) hz)) (by refine Held.use (by assumption) ?_; exact (by (repeat (with_reducible first | exact Below.refl _ _ | refine bel_drew ?_ | refine bel_alloc ?_ | (apply bel_step; focus assumption)))))) rfl).mono ?_; rintro e w1 ⟨ka, kc, rfl, hn1, hb1⟩; have HN1 := Held.call hn1 (new_ge (by (repeat (with_reducible first | exact Below.refl _ _ | refine bel_drew ?_ | refine bel_alloc ?_ | (apply bel_step; focus assumption)))) hz); have HW1 : Hid (Below W.heap.size W w1) := Lib.hid (by (repeat (with_reducible first | exact Below.refl _ _ | refine bel_drew ?_ | refine bel_alloc ?_ | (apply bel_step; focus assumption)))); clear hn1))
  generalize hd : localS (bstr [121]) (vN (bstr [120])) (numN 0) [pushS (bstr [121]) (bstr [98])] = dup at *
  have hX := at_new0 w1 (.cells #[.int .u8 dup.kind, .int .i64 dup.num, .string dup.name, .slice ka dup.kids.length kc] 35)
  have hbX : Below w1.heap.size w1 (w1.alloc (.cells #[.int .u8 dup.kind, .int .i64 dup.num, .string dup.name, .slice ka dup.kids.length kc] 35)) := bel_alloc (Below.refl _ _)
  have hg1 : w.heap.size < w1.heap.size := by have := HW1.out.size; omega
  generalize (w1.alloc (.cells #[.int .u8 dup.kind, .int .i64 dup.num, .string dup.name, .slice ka dup.kids.length kc] 35)) = X at *
  have HD := HN1 X hbX
  have HWX : Hid (Below W.heap.size W X) := Lib.hid (HW1.out.trans (hbX.mono HW1.out.size))
  have hzX := HWX.out.size
  have HDD := Held.of HD
  have HX : Hid (∀ w', Below X.heap.size X w' → (w'.cell? ⟨w1.heap.size, 0, none⟩ = some (.int .u8 dup.kind) ∧ w'.cell? ⟨w1.heap.size, 1, none⟩ = some (.int .i64 dup.num) ∧ w'.cell? ⟨w1.heap.size, 2, none⟩ = some (.string dup.name) ∧ w'.cell? ⟨w1.heap.size, 3, none⟩ = some (.slice ka dup.kids.length kc))) := Lib.hid (fun w' h => cells4 (blk_below h hX))
  have HX2 : Hid (∀ w', Below X.heap.size X w' → ∀ y0 y1 y2 y3, ((((((w'.setCell ⟨w.heap.size, 0, none⟩ y0).setCell ⟨w.heap.size, 1, none⟩ y1).setCell ⟨w.heap.size, 2, none⟩ y2).setCell ⟨w.heap.size, 3, none⟩ y3)).cell? ⟨w1.heap.size, 0, none⟩ = some (.int .u8 dup.kind) ∧ (((((w'.setCell ⟨w.heap.size, 0, none⟩ y0).setCell ⟨w.heap.size, 1, none⟩ y1).setCell ⟨w.heap.size, 2, none⟩ y2).setCell ⟨w.heap.size, 3, none⟩ y3)).cell? ⟨w1.heap.size, 1, none⟩ = some (.int .i64 dup.num) ∧ (((((w'.setCell ⟨w.heap.size, 0, none⟩ y0).setCell ⟨w.heap.size, 1, none⟩ y1).setCell ⟨w.heap.size, 2, none⟩ y2).setCell ⟨w.heap.size, 3, none⟩ y3)).cell? ⟨w1.heap.size, 2, none⟩ = some (.string dup.name) ∧ (((((w'.setCell ⟨w.heap.size, 0, none⟩ y0).setCell ⟨w.heap.size, 1, none⟩ y1).setCell ⟨w.heap.size, 2, none⟩ y2).setCell ⟨w.heap.size, 3, none⟩ y3)).cell? ⟨w1.heap.size, 3, none⟩ = some (.slice ka dup.kids.length kc))) := Lib.hid (fun w' h y0 y1 y2 y3 => cells4 (blk_s4L (blk_below h hX) (by omega) _ _ _ _))
  have HRX : Hid (∀ w', Below X.heap.size X w' → w'.heap[w.heap.size]? = some (.cells #[.int .u8 0, .int .i64 0, .string ⟨#[]⟩, .slice none 0 0] 35)) := Lib.hid (fun w' h => HR.out w' (HWX.out.trans (h.mono HWX.out.size)))
  obtain ⟨c, hc⟩ : ∃ c, X.heap.size = w.heap.size + 1 + c := ⟨X.heap.size - (w.heap.size + 1), by omega⟩
  have hgx : ∀ wi, Below X.heap.size X wi → w.heap.size + 1 ≤ wi.heap.size := fun wi h => by have := h.size; omega
  clear hX hbX HD HN1 HR
  go_region_held3 (fun w' => (w'.cell? ⟨w1.heap.size, 0, none⟩ = some (.int .u8 dup.kind) ∧ w'.cell? ⟨w1.heap.size, 1, none⟩ = some (.int .i64 dup.num) ∧ w'.cell? ⟨w1.heap.size, 2, none⟩ = some (.string dup.name) ∧ w'.cell? ⟨w1.heap.size, 3, none⟩ = some (.slice ka dup.kids.length kc)))
    (first | with_reducible exact HX2.out _ HW9.out _ _ _ _ | with_reducible exact HX.out _ (by (repeat (with_reducible first | exact Below.refl _ _ | refine bel_drew ?_ | refine bel_alloc ?_ | (apply bel_step; focus assumption)))))
    (first
    | (go_at_call 138; (with_reducible refine (number_0 (NewC A w 1) _).mono ?_); rintro e w9 ⟨k7, k8, rfl, hn9, hb9⟩; have HN9 := Held.call hn9 (hgx _ (by (repeat (with_reducible first | exact Below.refl _ _ | refine bel_drew ?_ | refine bel_alloc ?_ | (apply bel_step; focus assumption))))); clear hn9)
    | (go_at_call 144; (with_reducible refine (size_1 (NewC A w 1) _ _).mono ?_); rintro e w9 ⟨k7, k8, rfl, hn9, hb9⟩; have HN9 := Held.call hn9 (hgx _ (by (repeat (with_reducible first | exact Below.refl _ _ | refine bel_drew ?_ | refine bel_alloc ?_ | (apply bel_step; focus assumption))))); clear hn9)
    | (go_at_call 143; (with_reducible refine (equal_L (NewC A w 1) _ _ _ _ _ _ _ (by refine Held.use (by assumption) ?_; exact (by (repeat (with_reducible first | exact Below.refl _ _ | refine bel_drew ?_ | refine bel_alloc ?_ | (apply bel_step; focus assumption))))) (by refine Held.use (by assumption) ?_; exact (by (repeat (with_reducible first | exact Below.refl _ _ | refine bel_drew ?_ | refine bel_alloc ?_ | (apply bel_step; focus assumption)))))).mono ?_); rintro e w9 ⟨k7, k8, rfl, hn9, hb9⟩; have HN9 := Held.call hn9 (hgx _ (by (repeat (with_reducible first | exact Below.refl _ _ | refine bel_drew ?_ | refine bel_alloc ?_ | (apply bel_step; focus assumption))))); clear hn9)
    | (go_at_call 145; (with_reducible refine (move_1 (NewC A w 1) _ _ _).mono ?_); rintro e w9 ⟨k7, k8, rfl, hn9, hb9⟩; have HN9 := Held.call hn9 (hgx _ (by (repeat (with_reducible first | exact Below.refl _ _ | refine bel_drew ?_ | refine bel_alloc ?_ | (apply bel_step; focus assumption))))); clear hn9)
    | (go_at_call 139; (with_reducible refine (push_1 (NewC A w 1) _ _ _).mono ?_); rintro e w9 ⟨k7, k8, rfl, hn9, hb9⟩; have HN9 := Held.call hn9 (hgx _ (by (repeat (with_reducible first | exact Below.refl _ _ | refine bel_drew ?_ | refine bel_alloc ?_ | (apply bel_step; focus assumption))))); clear hn9)
    | (go_at_call 146; (with_reducible refine (pop_1 (NewC A w 1) _ _ _).mono ?_); rintro e w9 ⟨k7, k8, rfl, hn9, hb9⟩; have HN9 := Held.call hn9 (hgx _ (by (repeat (with_reducible first | exact Below.refl _ _ | refine bel_drew ?_ | refine bel_alloc ?_ | (apply bel_step; focus assumption))))); clear hn9)
    | (go_at_call 142; refine (loop_1 (NewC A w 1) (by refine Held.use (by assumption) ?_; exact (by (repeat (with_reducible first | exact Below.refl _ _ | refine bel_drew ?_ | refine bel_alloc ?_ | (apply bel_step; focus assumption))))) (by refine Held.use (by assumption) ?_; exact (by (repeat (with_reducible first | exact Below.refl _ _ | refine bel_drew ?_ | refine bel_alloc ?_ | (apply bel_step; focus assumption))))) (kids_1 (at_new0 _ _) (.inr (hgx _ (by exact (by (repeat (with_reducible first | exact Below.refl _ _ | refine bel_drew ?_ | refine bel_alloc ?_ | (apply bel_step; focus assumption))))))) (by refine Held.use (by assumption) ?_; exact (by (repeat (with_reducible first | exact Below.refl _ _ | refine bel_drew ?_ | refine bel_alloc ?_ | (apply bel_step; focus assumption)))))) (by rfl)).mono ?_; rintro e w9 ⟨k7, k8, rfl, hn9, hb9⟩; have HN9 := Held.call hn9 (hgx _ (by (repeat (with_reducible first | exact Below.refl _ _ | refine bel_drew ?_ | refine bel_alloc ?_ | (apply bel_step; focus assumption))))); clear hn9)
    | (go_at_call 136; refine (local_1 (NewC A w 1) _ (by refine Held.use (by assumption) ?_; exact (by (repeat (with_reducible first | exact Below.refl _ _ | refine bel_drew ?_ | refine bel_alloc ?_ | (apply bel_step; focus assumption))))) (by refine Held.use (by assumption) ?_; exact (by (repeat (with_reducible first | exact Below.refl _ _ | refine bel_drew ?_ | refine bel_alloc ?_ | (apply bel_step; focus assumption))))) (kids_3 (at_new0 _ _) (.inr (hgx _ (by exact (by (repeat (with_reducible first | exact Below.refl _ _ | refine bel_drew ?_ | refine bel_alloc ?_ | (apply bel_step; focus assumption))))))) (by refine Held.use (by assumption) ?_; exact (by (repeat (with_reducible first | exact Below.refl _ _ | refine bel_drew ?_ | refine bel_alloc ?_ | (apply bel_step; focus assumption))))) (by refine Held.use (by assumption) ?_; exact (by (repeat (with_reducible first | exact Below.refl _ _ | refine bel_drew ?_ | refine bel_alloc ?_ | (apply bel_step; focus assumption))))) (by refine Held.use (by assumption) ?_; exact (by (repeat (with_reducible first | exact Below.refl _ _ | refine bel_drew ?_ | refine bel_alloc ?_ | (apply bel_step; focus assumption)))))) (by rfl)).mono ?_; rintro e w9 ⟨k7, k8, rfl, hn9, hb9⟩; have HN9 := Held.call hn9 (hgx _ (by (repeat (with_reducible first | exact Below.refl _ _ | refine bel_drew ?_ | refine bel_alloc ?_ | (apply bel_step; focus assumption))))); clear hn9)
    | (go_at_call 141; refine (named_1 (NewC A w 1) _ (by omega) _ (kids_1 (at_new0 _ _) (.inr (hgx _ (by exact (by (repeat (with_reducible first | exact Below.refl _ _ | refine bel_drew ?_ | refine bel_alloc ?_ | (apply bel_step; focus assumption))))))) (by refine Held.use (by assumption) ?_; exact (by (repeat (with_reducible first | exact Below.refl _ _ | refine bel_drew ?_ | refine bel_alloc ?_ | (apply bel_step; focus assumption)))))) (by rfl)).mono ?_; have HNM := True.intro; rintro e w9 ⟨k7, k8, rfl, hn9, hb9⟩; have HN9 := Held.call hn9 (hgx _ (by (repeat (with_reducible first | exact Below.refl _ _ | refine bel_drew ?_ | refine bel_alloc ?_ | (apply bel_step; focus assumption))))); clear hn9)
    | (have := HNM; go_at_call 140; refine (block_1 (NewC A w 1) (kids_1 (at_new0 _ _) (.inr (hgx _ (by exact (by (repeat (with_reducible first | exact Below.refl _ _ | refine bel_drew ?_ | refine bel_alloc ?_ | (apply bel_step; focus assumption))))))) (by refine Held.use (by assumption) ?_; exact (by (repeat (with_reducible first | exact Below.refl _ _ | refine bel_drew ?_ | refine bel_alloc ?_ | (apply bel_step; focus assumption)))))) (by rfl)).mono ?_; rintro e w9 ⟨k7, k8, rfl, hn9, hb9⟩; have HW9 : Hid (Below X.heap.size X w9) := Lib.hid (by (repeat (with_reducible first | exact Below.refl _ _ | refine bel_drew ?_ | refine bel_alloc ?_ | (apply bel_step; focus assumption)))); have hr := HRX.out _ HW9.out; obtain ⟨r0, r1, r2, r3⟩ := cells4 hr; have f := unfrozen hr; have HR9 := Lib.hid hr; have HN9 := Lib.hid (nd_mono hn9 (newC_out (hgx _ (by (repeat (with_reducible first | exact Below.refl _ _ | refine bel_drew ?_ | refine bel_alloc ?_ | (apply bel_step; focus assumption))))))); clear hr hn9)
    | (go_at_call 140; refine (block_1 (NewC A w 1) (kids_2 (at_new0 _ _) (.inr (hgx _ (by exact (by (repeat (with_reducible first | exact Below.refl _ _ | refine bel_drew ?_ | refine bel_alloc ?_ | (apply bel_step; focus assumption))))))) (by refine Held.use (by assumption) ?_; exact (by (repeat (with_reducible first | exact Below.refl _ _ | refine bel_drew ?_ | refine bel_alloc ?_ | (apply bel_step; focus assumption))))) (by refine Held.use (by assumption) ?_; exact (by (repeat (with_reducible first | exact Below.refl _ _ | refine bel_drew ?_ | refine bel_alloc ?_ | (apply bel_step; focus assumption)))))) (by rfl)).mono ?_; rintro e w9 ⟨k7, k8, rfl, hn9, hb9⟩; have HN9 := Held.call hn9 (hgx _ (by (repeat (with_reducible first | exact Below.refl _ _ | refine bel_drew ?_ | refine bel_alloc ?_ | (apply bel_step; focus assumption))))); clear hn9))
  all_goals
    go_wp2
    (try simp only [Exit.inBlock, Exit.then]); refine bodyPost_ret (results_cell_row (P := Tryz.prog) rfl _ _ w.heap.size _ _ _ _ rfl (set4 HR9.out _ _ _ _) Tryz.underlying35 rfl (by kernel_rfl)) rfl ?_
    subst hd
    have hB := HWX.out.trans (HW9.out.mono HWX.out.size)
    exact fin_L (x := copyB) HN9.out (by omega) (by omega) (HA.out.trans (hB.mono HA.out.size)) _ _ _ _
end Go.Proofs.YtkemieppamdniaaGreatDoor
