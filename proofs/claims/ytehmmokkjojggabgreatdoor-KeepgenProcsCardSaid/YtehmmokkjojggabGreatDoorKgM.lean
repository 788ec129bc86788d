/- Walks of package backsteplaw41: computed. -/
import Derived.Test.YtehmmokkjojggabGreatDoorKgD
import Derived.Test.YtehmmokkjojggabGreatDoorKgL
namespace Go.Proofs.YtehmmokkjojggabGreatDoor
set_option linter.unusedVariables false
set_option linter.unusedSimpArgs false
open Go.RowKit

theorem results_mid {P : Program} {fn : Func} {p q r : Tmp} {ty : TypeId} (h : fn.results = #[.tmp p, .cell q ty, .tmp r]) (tmps : Array Value) (w : World) (g : Nat) (t : TypeId) (cs : Array Value) (fr : Nat × Nat) (d : TypeDesc) (v1 v3 : Value)
    (hp : tmps.getD p undef = v1) (hq : tmps.getD q undef = .pointer (some ⟨g, 0, none⟩)) (hg : w.heap[g]? = some (.cells cs t fr)) (hr : tmps.getD r undef = v3)
    (hu : P.underlying ty = some d) (hd : (match d with | .struct _ | .array _ _ => true | _ => false) = true) (hi : (P.info? ty).map (·.size) = some cs.size) :
    (results fn tmps).run P w = .ok (.tuple #[v1, .agg cs, v3]) w := by
  have hp' : tmps[p]?.getD undef = v1 := by simpa using hp
  have hq' : tmps[q]?.getD undef = .pointer (some ⟨g, 0, none⟩) := by simpa using hq
  have hr' : tmps[r]?.getD undef = v3 := by simpa using hr
  simp [results, h, hp', hq', hr', asAddr, run_loadVar_row w g t ty cs fr d hg hu hd hi]
/-- the copy of the result in a block of its own -/
def CopB (W : World) (k : Int) (nm : ByteArray) (x : Nd) (s : Value) (wx : World) : Prop :=
  ∃ (gb : Nat) (a : Option Addr) (m c : Nat), s = .pointer (some ⟨gb, 0, none⟩) ∧ wx.heap[gb]? = some (.cells #[.int .u8 k, .int .i64 0, .string nm, .slice a m c] 35 (0, 0)) ∧ NdAt (fun b => Up W.heap.size b ∧ b ≠ gb) wx (.agg #[.int .u8 k, .int .i64 0, .string nm, .slice a m c]) x ∧ Below W.heap.size W wx ∧ W.heap.size ≤ gb
theorem copB_mk {W wx : World} {gb kb : Nat} {k : Int} {nm s1 s2 : ByteArray} (hg : wx.heap[gb]? = some (.cells #[.int .u8 k, .int .i64 0, .string nm, .slice (some ⟨kb, 0, none⟩) 2 2] 35 (0, 0))) (hk : wx.heap[kb]? = some (.cells #[.int .u8 2, .int .i64 0, .string s1, .slice none 0 0, .int .u8 2, .int .i64 0, .string s2, .slice none 0 0] 35 (0, 0))) (hne : kb ≠ gb) (hb : Below W.heap.size W wx) (h1 : W.heap.size ≤ gb) (h2 : W.heap.size ≤ kb) (hs1 : s1.size ≤ maxLen) (hs2 : s2.size ≤ maxLen) (hkk : 0 ≤ k ∧ k ≤ 255) (hnm : nm.size ≤ maxLen) :
    CopB W k nm (nodeN k nm [vN s1, vN s2]) (.pointer (some ⟨gb, 0, none⟩)) wx :=
  ⟨gb, _, _, _, rfl, hg, nd_node (kids_2 hk ⟨h2, hne⟩ (nd_v hs1) (nd_v hs2)) hkk hnm, hb, h1⟩
theorem copB_set {W w9 : World} {gb kb : Nat} {k : Int} {nm s1 s2 : ByteArray} {v0 v1 v2 v3 : Value} (hg : w9.heap[gb]? = some (.cells #[v0, v1, v2, v3] 35 (0, 0))) (hk : w9.heap[kb]? = some (.cells #[.int .u8 2, .int .i64 0, .string s1, .slice none 0 0, .int .u8 2, .int .i64 0, .string s2, .slice none 0 0] 35 (0, 0))) (hne : kb ≠ gb) (hb : Below W.heap.size W w9) (h1 : W.heap.size ≤ gb) (h2 : W.heap.size ≤ kb) (hs1 : s1.size ≤ maxLen) (hs2 : s2.size ≤ maxLen) (hkk : 0 ≤ k ∧ k ≤ 255) (hnm : nm.size ≤ maxLen) :
    CopB W k nm (nodeN k nm [vN s1, vN s2]) (.pointer (some ⟨gb, 0, none⟩)) ((((w9.setCell ⟨gb, 0, none⟩ (.int .u8 k)).setCell ⟨gb, 1, none⟩ (.int .i64 0)).setCell ⟨gb, 2, none⟩ (.string nm)).setCell ⟨gb, 3, none⟩ (.slice (some ⟨kb, 0, none⟩) 2 2)) :=
  copB_mk (set4 hg _ _ _ _) (blk_sets4 hk hne) hne (bel_sets4 hb h1) h1 h2 hs1 hs2 hkk hnm
theorem kid_own {B e : Nat} {D : Nat → Prop} {wc w5 : World} {g : Nat} {a : Option Addr} {n c : Nat} {l : List Nd} {x0 x1 x2 x3 : Value} {x : Nd} (HN : NdAt (fun b => Up B b ∧ b < wc.heap.size) w5 (.agg #[x0, x1, x2, x3]) x) (HO : RowsOwn NdE e D wc.heap.size w5 (.slice a n c) l) (hg : w5.heap[g]? = some (.cells #[x0, x1, x2, x3] 35 (0, 0))) (hB : B ≤ g) (hne : (Value.slice a n c).ownBlock ≠ some g) :
    RowsAt NdE (fun b => Up B b ∧ (Value.slice a n c).ownBlock ≠ some b) w5 (.slice (some ⟨g, 0, none⟩) 1 1) [x] :=
  kids_rows.1 (kids_1 hg ⟨hB, hne⟩ (HN.stays ⟨Nat.le_refl _, fun b hb a => ⟨rfl, a.1, fun e => by have := (HO.lt e).1; have := a.2; omega⟩⟩))
set_option maxRecDepth 100000 in
set_option maxHeartbeats 6400000 in
theorem computed_T (g : AFn) (pa ta ba : Option Addr) (pc tc bc : Nat) (ka : Option Addr) (kc : Nat) (kept : List ByteArray) (w : World) (hb : BdsAt Any w (.slice ba g.body.length bc) g.body) (hr : g.result.size ≤ maxLen) (hz : sizeBs g.body ≤ 10000) (hk : StrsAt Any w (.slice ka kept.length kc) kept) (hks : ∀ s ∈ kept, s.size ≤ 140737488355328) :
    Calls Tryz.prog 28 #[.agg #[.string g.name, .slice pa g.params.length pc, .bool g.list, .slice ta g.temps.length tc, .slice ba g.body.length bc, .string g.result], .slice ka kept.length kc] w fun e w' => ∃ (a : Option Addr) (c : Nat) (za : Option Addr) (zn zc : Nat), e = .returned (.tuple #[.slice a (bindsN (keptF kept) g.body ++ [resultN g]).length c, .agg #[.int .u8 57, .int .i64 0, .string ⟨#[]⟩, .slice za zn zc], .bool true]) ∧ RowsOwn NdE 35 (Up w.heap.size) w.heap.size w' (.slice a (bindsN (keptF kept) g.body ++ [resultN g]).length c) (bindsN (keptF kept) g.body ++ [resultN g]) ∧ Below w.heap.size w w' := by
  have hlb : (bindsN (keptF kept) g.body).length ≤ 20000 := by have := bindsN_len (keptF kept) g.body; have := len_sizeBs g.body; omega
  obtain ⟨W, hW⟩ : ∃ W, W = ((w.alloc (.cells #[.string g.name, .slice pa g.params.length pc, .bool g.list, .slice ta g.temps.length tc, .slice ba g.body.length bc, .string g.result] 31)).alloc (.cells #[.slice ka kept.length kc] 23)).alloc (.cells #[.int .u8 0, .int .i64 0, .string ⟨#[]⟩, .slice none 0 0] 35) := ⟨_, rfl⟩
  have hA : Below w.heap.size w W := by subst hW; exact bel_alloc (bel_alloc (bel_alloc (Below.refl _ _)))
  have HA := Lib.hid hA
  have HF : Hid (W.heap[w.heap.size]? = some (.cells #[.string g.name, .slice pa g.params.length pc, .bool g.list, .slice ta g.temps.length tc, .slice ba g.body.length bc, .string g.result] 31 (0, 0))) := Lib.hid (by subst hW; exact blk_alloc (at_old _ _ _))
  have HK : Hid (W.heap[w.heap.size + 1]? = some (.cells #[.slice ka kept.length kc] 23 (0, 0))) := Lib.hid (by subst hW; exact blk_alloc (at_new _ _ _))
  have HZ : Hid (W.heap[w.heap.size + 1 + 1]? = some (.cells #[.int .u8 0, .int .i64 0, .string ⟨#[]⟩, .slice none 0 0] 35 (0, 0))) := Lib.hid (by subst hW; exact blk_new (by simp))
  have HWS : Hid (W.heap.size = w.heap.size + 3) := Lib.hid (by subst hW; simp)
  have HC : Hid (Calls Tryz.prog 11 #[.agg #[.string g.name, .slice pa g.params.length pc, .bool g.list, .slice ta g.temps.length tc, .slice ba g.body.length bc, .string g.result], .func (.func 66) #[] #[.pointer (some ⟨w.heap.size + 1, 0, none⟩)]] W fun e w' => ∃ xa xc, e = .returned (.tuple #[.agg #[.int .u8 57, .int .i64 0, .string ⟨#[]⟩, .slice xa (bindsN (keptF kept) g.body).length xc], .int .i64 0]) ∧ KidsAt (Up W.heap.size) w' (.slice xa (bindsN (keptF kept) g.body).length xc) (bindsN (keptF kept) g.body) ∧ Below W.heap.size W w') := Lib.hid ((compute_C g pa ta ba pc tc bc _ (keptF kept) W (hb.stays (Stays.of_below hA)) (computed_clos hks HK.out (hk.stays (Stays.of_below hA))) (by omega)).mono fun e w' ⟨xa, xn, xc, he, h, hb⟩ => by
    obtain ⟨_, a', c', e'⟩ := h.form
    simp only [Value.slice.injEq] at e'
    obtain ⟨rfl, rfl, rfl⟩ := e'
    exact ⟨xa, xc, he, h, hb⟩)
  clear hb hk hA HK
  obtain ⟨BN, hBN⟩ : ∃ BN, BN = bindsN (keptF kept) g.body := ⟨_, rfl⟩
  rw [← hBN] at HC hlb ⊢
  clear hBN
  subst hW
  go_enter Tryz.func28, Tryz.ntmps28
  go_wp2_with (go_at_call 11; refine HC.out.mono ?_; rintro e w2 ⟨xa, xc, rfl, hk2, hb2⟩; have HK2 := Lib.hid hk2; clear hk2)
  generalize hV : ((w.alloc (.cells #[.string g.name, .slice pa g.params.length pc, .bool g.list, .slice ta g.temps.length tc, .slice ba g.body.length bc, .string g.result] 31)).alloc (.cells #[.slice ka kept.length kc] 23)).alloc (.cells #[.int .u8 0, .int .i64 0, .string ⟨#[]⟩, .slice none 0 0] 35) = V at *
  clear hV HC
  have hb3 : Below V.heap.size V (w2.alloc (.cells #[.int .u8 57, .int .i64 0, .string ⟨#[]⟩, .slice xa BN.length xc] 35)) := bel_alloc hb2
  have HB3 := Lib.hid hb3
  have HC3 : Hid ((w2.alloc (.cells #[.int .u8 57, .int .i64 0, .string ⟨#[]⟩, .slice xa BN.length xc] 35)).heap[w2.heap.size]? = some (.cells #[.int .u8 57, .int .i64 0, .string ⟨#[]⟩, .slice xa BN.length xc] 35 (0, 0))) := Lib.hid (at_new0 _ _)
  have HK3 : Hid (KidsAt (fun b => Up (w.heap.size + 3) b ∧ b < w2.heap.size) (w2.alloc (.cells #[.int .u8 57, .int .i64 0, .string ⟨#[]⟩, .slice xa BN.length xc] 35)) (.slice xa BN.length xc) BN) := Lib.hid (HK2.out.stays ⟨by simp, fun b hb a => ⟨(bel_alloc (Below.refl w2.heap.size w2)).block b hb, Nat.le_trans (by have := HWS.out; omega) a, hb⟩⟩)
  have HS3 : Hid (w.heap.size + 3 ≤ w2.heap.size ∧ w2.heap.size + 1 = (w2.alloc (.cells #[.int .u8 57, .int .i64 0, .string ⟨#[]⟩, .slice xa BN.length xc] 35)).heap.size) := Lib.hid ⟨by have := HWS.out; have := hb2.size; omega, by simp⟩
  generalize (w2.alloc (.cells #[.int .u8 57, .int .i64 0, .string ⟨#[]⟩, .slice xa BN.length xc] 35)) = W3 at *
  have HF3 : Hid (∀ w1, Below W3.heap.size W3 w1 → w1.cell? ⟨w.heap.size, 5, none⟩ = some (.string g.result)) := Lib.hid (fun w1 h => (cells6 (blk_below h (blk_below HB3.out HF.out))).2.2.2.2.2)
  clear hb2 hb3 HK2
  go_cut [9] (fun s wx => CopB W3 42 ⟨#[]⟩ (nodeN 42 ⟨#[]⟩ [vN ⟨#[111, 117, 116]⟩, vN g.result]) s wx)
  case first =>
    go_region_held3 (fun w1 => w1.cell? ⟨w.heap.size, 5, none⟩ = some (.string g.result)) (with_reducible exact HF3.out _ (by (repeat (with_reducible first | exact Below.refl _ _ | refine bel_drew ?_ | refine bel_alloc ?_ | (refine bel_sets4 ?_ ?_; rotate_left; (focus (first | exact Nat.le_refl _ | exact Below.size (by (repeat (with_reducible first | exact Below.refl _ _ | refine bel_drew ?_ | refine bel_alloc ?_ | (apply bel_step; focus assumption))))))) | (apply bel_step; focus assumption)))))
      (first
      | (go_at_call 29; (with_reducible refine (leaf_T ⟨#[111, 117, 116]⟩ _).mono ?_); rintro e w5 ⟨rfl, hb5⟩)
      | (go_at_call 29; (with_reducible refine (leaf_T g.result _).mono ?_); rintro e w6 ⟨rfl, hb6⟩; (first | (refine blk_use (w6.alloc (.cells #[.int .u8 2, .int .i64 0, .string ⟨#[111, 117, 116]⟩, .slice none 0 0, .int .u8 2, .int .i64 0, .string g.result, .slice none 0 0] 35)) W3.heap.size ?_ (fun g0 g1 g2 g3 gf => ?_); focus ((repeat (with_reducible first | (refine blk_new ?_; (simp; done)) | refine blk_drew ?_ | refine blk_alloc ?_ | (apply blk_below; focus assumption))); done)) | skip); (first | (refine blk_use (w6.alloc (.cells #[.int .u8 2, .int .i64 0, .string ⟨#[111, 117, 116]⟩, .slice none 0 0, .int .u8 2, .int .i64 0, .string g.result, .slice none 0 0] 35)) w5.heap.size ?_ (fun g0 g1 g2 g3 gf => ?_); focus ((repeat (with_reducible first | (refine blk_new ?_; (simp; done)) | refine blk_drew ?_ | refine blk_alloc ?_ | (apply blk_below; focus assumption))); done)) | skip)))
    all_goals
      have hz5 := hb5.size
      have hz6 := hb6.size
      (try simp only [World.size_alloc, World.size_drew] at hz5 hz6)
      have HB6 : Hid (Below W3.heap.size W3 w6) := Lib.hid (by (repeat (with_reducible first | exact Below.refl _ _ | refine bel_drew ?_ | refine bel_alloc ?_ | (apply bel_step; focus assumption))))
      go_wp2
      go_meet
      first
      | ((with_reducible refine copB_mk (by (repeat (with_reducible first | (refine blk_new ?_; (simp; done)) | (refine blk_new ?_; rfl) | refine blk_drew ?_ | refine blk_alloc ?_ | (apply blk_below; focus assumption)))) (by (repeat (with_reducible first | (refine blk_new ?_; (simp; done)) | (refine blk_new ?_; rfl) | refine blk_drew ?_ | refine blk_alloc ?_ | (apply blk_below; focus assumption)))) ?_ ?_ ?_ ?_ ?_ hr ?_ ?_); (focus omega); (focus exact (by (repeat (with_reducible first | exact Below.refl _ _ | refine bel_drew ?_ | refine bel_alloc ?_ | (apply bel_step; focus assumption))))); (focus omega); (focus omega); (focus (unfold maxLen; decide)); (focus omega); (focus exact Nat.zero_le _))
      | ((with_reducible refine copB_set (by (repeat (with_reducible first | (refine blk_new ?_; (simp; done)) | (refine blk_new ?_; rfl) | refine blk_drew ?_ | refine blk_alloc ?_ | (apply blk_below; focus assumption)))) (by (repeat (with_reducible first | (refine blk_new ?_; (simp; done)) | (refine blk_new ?_; rfl) | refine blk_drew ?_ | refine blk_alloc ?_ | (apply blk_below; focus assumption)))) ?_ ?_ ?_ ?_ ?_ hr ?_ ?_); (focus omega); (focus exact (by (repeat (with_reducible first | exact Below.refl _ _ | refine bel_drew ?_ | refine bel_alloc ?_ | (apply bel_step; focus assumption))))); (focus omega); (focus omega); (focus (unfold maxLen; decide)); (focus omega); (focus exact Nat.zero_le _))
      | trace_state
  case rest =>
    obtain ⟨gb, ca, cm, cc, rfl, hG, hN, hBw, hgb⟩ := hcut
    have HFW : Hid (wc.heap[w.heap.size]? = some (.cells #[.string g.name, .slice pa g.params.length pc, .bool g.list, .slice ta g.temps.length tc, .slice ba g.body.length bc, .string g.result] 31 (0, 0))) := Lib.hid (blk_below hBw (blk_below HB3.out HF.out))
    have HG := Lib.hid hG
    have HN := Lib.hid hN
    have HBW := Lib.hid hBw
    have HGB := Lib.hid hgb
    obtain ⟨f0, f1, f2, f3, f4, f5⟩ := cells6 HFW.out
    clear hG hN hBw hgb HF3
    obtain ⟨lb, hlb2⟩ : ∃ lb, lb = g.list := ⟨_, rfl⟩
    rw [← hlb2] at f2
    have HLB := Lib.hid hlb2
    clear hlb2
    go_upto_if 23 with fail
    go_cut [9] (fun s wx => ∃ k nm, CopB W3 k nm (resultN g) s wx)
    case first =>
      cases lb with
      | true =>
        have HL : Hid (resultN g = callN ⟨#[108, 99, 111, 112, 121]⟩ [g.result, ⟨#[111, 117, 116]⟩]) := Lib.hid (by unfold resultN; rw [← HLB.out]; rfl)
        go_wp2_with (first
          | (go_at_call 29; (with_reducible refine (leaf_T g.result _).mono ?_); rintro e w5 ⟨rfl, hb5⟩)
          | (go_at_call 29; (with_reducible refine (leaf_T ⟨#[111, 117, 116]⟩ _).mono ?_); rintro e w6 ⟨rfl, hb6⟩; have HG6 := Lib.hid (blk_alloc (x := (.cells #[.int .u8 2, .int .i64 0, .string g.result, .slice none 0 0, .int .u8 2, .int .i64 0, .string ⟨#[111, 117, 116]⟩, .slice none 0 0] 35)) (blk_below hb6 (blk_below hb5 HG.out))); obtain ⟨g0, g1, g2, g3⟩ := cells4 HG6.out; have gf := unfrozen HG6.out))
        go_meet
        have hbx : Below W3.heap.size W3 w6 := bel_step hb6 (bel_step hb5 HBW.out)
        have hz6 := hb6.size
        have hz5 := hb5.size
        have hgb := HGB.out
        have hgw : gb < wc.heap.size := by have h := HG.out; rw [Array.getElem?_eq_some_iff] at h; exact h.1
        refine ⟨50, ⟨#[108, 99, 111, 112, 121]⟩, ?_⟩
        rw [HL.out]
        exact copB_set HG6.out (blk_new rfl) (by omega) (bel_alloc hbx) hgb (by have := hbx.size; omega) hr (by unfold maxLen; decide) (by omega) (by unfold maxLen; decide)
      | false =>
        have HL : Hid (resultN g = nodeN 42 ⟨#[]⟩ [vN ⟨#[111, 117, 116]⟩, vN g.result]) := Lib.hid (by unfold resultN; rw [← HLB.out]; rfl)
        go_wp2
        go_meet
        rw [HL.out]
        exact ⟨_, _, _, _, _, _, rfl, HG.out, HN.out, HBW.out, HGB.out⟩
    case rest =>
      obtain ⟨k9, nm9, gb, ca, cm, cc, rfl, hG, hN, hBw, hgb⟩ := hcut
      have HSW : Hid (w.heap.size + 3 ≤ wc.heap.size ∧ w2.heap.size ≤ wc.heap.size ∧ w.heap.size + 3 ≤ w2.heap.size ∧ w.heap.size + 3 ≤ gb ∧ gb < wc.heap.size) := Lib.hid (by
        have h1 := hBw.size
        obtain ⟨h2, h3⟩ := HS3.out
        have h4 : gb < wc.heap.size := by have h := hG; rw [Array.getElem?_eq_some_iff] at h; exact h.1
        omega)
      have HFS : Hid (∀ w1, Near wc (w.heap.size + 1 + 1) w1 → (w1.cell? ⟨w2.heap.size, 0, none⟩ = some (.int .u8 57) ∧ w1.cell? ⟨w2.heap.size, 1, none⟩ = some (.int .i64 0) ∧ w1.cell? ⟨w2.heap.size, 2, none⟩ = some (.string ⟨#[]⟩) ∧ w1.cell? ⟨w2.heap.size, 3, none⟩ = some (.slice xa BN.length xc)) ∧ w1.cell? ⟨gb, 0, none⟩ = some (.int .u8 k9) ∧ w1.cell? ⟨gb, 1, none⟩ = some (.int .i64 0) ∧ w1.cell? ⟨gb, 2, none⟩ = some (.string nm9) ∧ w1.cell? ⟨gb, 3, none⟩ = some (.slice ca cm cc)) := Lib.hid (fun w1 ⟨wm, h1, h2⟩ => by
        have hs := HSW.out
        have e1 : w1.heap[w2.heap.size]? = _ := (h2.block w2.heap.size (by have := h1.size; have := HS3.out; have := hBw.size; omega) (by omega)).trans (blk_below h1 (blk_below hBw HC3.out))
        have e2 : w1.heap[gb]? = _ := (h2.block gb (by have := h1.size; omega) (by omega)).trans (blk_below h1 hG)
        obtain ⟨a0, a1, a2, a3⟩ := cells4 e1
        obtain ⟨b0, b1, b2, b3⟩ := cells4 e2
        exact ⟨⟨a0, a1, a2, a3⟩, b0, b1, b2, b3⟩)
      have HKW : Hid (∀ w1, Below wc.heap.size wc w1 → RowsAt NdE (fun b => Up (w.heap.size + 3) b ∧ b < w2.heap.size) w1 (.slice xa BN.length xc) BN) := Lib.hid (fun w1 h => kids_rows.1 ((HK3.out.stays (Stays.of_below hBw)).stays (Stays.of_below h)))
      have HZW : Hid (wc.heap[w.heap.size + 1 + 1]? = some (.cells #[.int .u8 0, .int .i64 0, .string ⟨#[]⟩, .slice none 0 0] 35 (0, 0))) := Lib.hid (blk_below hBw (blk_below HB3.out HZ.out))
      have HNW : Hid (∀ w1, Below wc.heap.size wc w1 → NdAt (fun b => Up (w.heap.size + 3) b ∧ b < wc.heap.size) w1 (.agg #[.int .u8 k9, .int .i64 0, .string nm9, .slice ca cm cc]) (resultN g)) := Lib.hid (fun w1 h => (hN.stays ⟨Nat.le_refl _, fun b hb a => ⟨rfl, Nat.le_trans (by have := HS3.out; omega) a.1, hb⟩⟩).stays (Stays.of_below h))
      have HBB : Hid (Below w.heap.size w wc) := Lib.hid (HA.out.trans ((HB3.out.trans (hBw.mono HB3.out.size)).mono HA.out.size))
      clear hG hN hBw hgb HG HN HBW HGB HFW HC3 HK3 f0 f1 f2 f3 f4 f5
      go_wp2
      go_region_held3 (fun w1 => (w1.cell? ⟨w2.heap.size, 0, none⟩ = some (.int .u8 57) ∧ w1.cell? ⟨w2.heap.size, 1, none⟩ = some (.int .i64 0) ∧ w1.cell? ⟨w2.heap.size, 2, none⟩ = some (.string ⟨#[]⟩) ∧ w1.cell? ⟨w2.heap.size, 3, none⟩ = some (.slice xa BN.length xc)) ∧ w1.cell? ⟨gb, 0, none⟩ = some (.int .u8 k9) ∧ w1.cell? ⟨gb, 1, none⟩ = some (.int .i64 0) ∧ w1.cell? ⟨gb, 2, none⟩ = some (.string nm9) ∧ w1.cell? ⟨gb, 3, none⟩ = some (.slice ca cm cc)) (with_reducible refine HFS.out _ ?_; focus ((repeat (with_reducible first | refine near_drew ?_ | refine near_set ?_)); refine near_bel (by (repeat (with_reducible first | exact Below.refl _ _ | refine bel_drew ?_ | refine bel_alloc ?_ | (apply bel_step; focus assumption)))); done))
        (first
        | (refine step_rows (E := NdE) (D := Up (w.heap.size + 3)) (D' := fun b => Up (w.heap.size + 3) b ∧ b < w2.heap.size) (base := wc.heap.size) (l := []) (m := BN) TNd rfl (by decide) (by rfl) (.tmp 30) (.tmp 32) (by rfl) (by rfl) (by rfl) (rows_empty (by (repeat (with_reducible first | (refine blk_new ?_; (simp; done)) | (refine blk_new ?_; rfl) | refine blk_drew ?_ | refine blk_alloc ?_ | (apply blk_below; focus assumption)))) (by first | omega | (simp; done) | (simp; omega))) (HKW.out _ (by (repeat (with_reducible first | exact Below.refl _ _ | refine bel_drew ?_ | refine bel_alloc ?_ | (apply bel_step; focus assumption))))) (fun b _ hb2 => ⟨hb2.1, fun e => by simp [Value.ownBlock] at e; have := hb2.2; have := HSW.out; omega⟩) (by unfold maxLen; simp; omega) (by simp; omega) (by first | omega | (simp; done) | (simp; omega)) ?_; intro a4 c4 w4 h4 hg4 hn4; have hb4 : Below wc.heap.size wc w4 := Below.grown (by (repeat (with_reducible first | exact Below.refl _ _ | refine bel_drew ?_ | refine bel_alloc ?_ | (apply bel_step; focus assumption)))) hg4 (by first | omega | (simp; done) | (simp; omega)) (fun k e => by simp [Value.ownBlock] at e; first | omega | (subst e; first | omega | (simp; done) | (simp; omega))); simp only [List.nil_append, List.length_nil, Nat.zero_add] at h4 hn4; have H4 := Lib.hid h4; have HG4 := Lib.hid hg4; have HN4 := Lib.hid hn4; clear h4 hg4 hn4)
        | (refine step_rows (E := NdE) (D := Up (w.heap.size + 3)) (base := wc.heap.size) (l := BN) (m := [resultN g]) TNd rfl (by decide) (by rfl) (.tmp 33) (.tmp 35) (by rfl) (by first | rfl | (show Value.slice a4 (0 + BN.length) c4 = _; rw [Nat.zero_add]) | (show Value.slice a4 (([] : List Nd).length + BN.length) c4 = _; simp)) (by rfl) (H4.out.below (by (repeat (with_reducible first | exact Below.refl _ _ | refine bel_drew ?_ | refine bel_alloc ?_ | (apply bel_step; focus assumption))))) (kid_own (HNW.out _ (by (repeat (with_reducible first | exact Below.refl _ _ | refine bel_drew ?_ | refine bel_alloc ?_ | (apply bel_step; focus assumption))))) (H4.out.below (by (repeat (with_reducible first | exact Below.refl _ _ | refine bel_drew ?_ | refine bel_alloc ?_ | (apply bel_step; focus assumption))))) (by (repeat (with_reducible first | (refine blk_new ?_; (simp; done)) | (refine blk_new ?_; rfl) | refine blk_drew ?_ | refine blk_alloc ?_ | (apply blk_below; focus assumption)))) (by have := HSW.out; have := ((by (repeat (with_reducible first | exact Below.refl _ _ | refine bel_drew ?_ | refine bel_alloc ?_ | (apply bel_step; focus assumption)))) : Below wc.heap.size wc w4).size; first | omega | (simp; done) | (simp; omega)) (fun e => by have := (H4.out.lt e).2; omega)) (fun b _ h => h) (by unfold maxLen; simp; omega) (by simp; omega) (by have := ((by (repeat (with_reducible first | exact Below.refl _ _ | refine bel_drew ?_ | refine bel_alloc ?_ | (apply bel_step; focus assumption)))) : Below wc.heap.size wc w4).size; first | omega | (simp; done) | (simp; omega)) ?_; intro a6 c6 w6 h6 hg6 hn6; have hb6 : Below wc.heap.size wc w6 := Below.grown (by (repeat (with_reducible first | exact Below.refl _ _ | refine bel_drew ?_ | refine bel_alloc ?_ | (apply bel_step; focus assumption)))) hg6 (by have := ((by (repeat (with_reducible first | exact Below.refl _ _ | refine bel_drew ?_ | refine bel_alloc ?_ | (apply bel_step; focus assumption)))) : Below wc.heap.size wc w4).size; first | omega | (simp; done) | (simp; omega)) (fun k e => (H4.out.lt e).1); have HW6 := Lib.hid hb6; have HZ6 := Lib.hid (blk_below hb6 HZW.out); obtain ⟨z0, z1, z2, z3⟩ := cells4 HZ6.out; have zf := unfrozen HZ6.out; have H6 := Lib.hid h6; clear h6 hg6 hn6)
        | (refine step_rows (E := NdE) (D := Up (w.heap.size + 3)) (base := wc.heap.size) (l := BN) (m := [resultN g]) TNd rfl (by decide) (by rfl) (.tmp 33) (.tmp 35) (by rfl) (by first | rfl | (show Value.slice a4 (0 + BN.length) c4 = _; rw [Nat.zero_add]) | (show Value.slice a4 (([] : List Nd).length + BN.length) c4 = _; simp)) (by rfl) (H4.out.below (by (repeat (with_reducible first | exact Below.refl _ _ | refine bel_drew ?_ | refine bel_alloc ?_ | (apply bel_step; focus assumption))))) (kid_own (HNW.out _ (by (repeat (with_reducible first | exact Below.refl _ _ | refine bel_drew ?_ | refine bel_alloc ?_ | (apply bel_step; focus assumption))))) (H4.out.below (by (repeat (with_reducible first | exact Below.refl _ _ | refine bel_drew ?_ | refine bel_alloc ?_ | (apply bel_step; focus assumption))))) ((HG4.out.block _ (by first | omega | (simp; done) | (simp; omega)) (by simp [Value.ownBlock])).trans (by (repeat (with_reducible first | (refine blk_new ?_; (simp; done)) | (refine blk_new ?_; rfl) | refine blk_drew ?_ | refine blk_alloc ?_ | (apply blk_below; focus assumption))))) (by have := HSW.out; have := ((by (repeat (with_reducible first | exact Below.refl _ _ | refine bel_drew ?_ | refine bel_alloc ?_ | (apply bel_step; focus assumption)))) : Below wc.heap.size wc w4).size; first | omega | (simp; done) | (simp; omega)) (fun e => by rcases HN4.out _ e with e | e <;> simp [Value.ownBlock] at e <;> omega)) (fun b _ h => h) (by unfold maxLen; simp; omega) (by simp; omega) (by have := ((by (repeat (with_reducible first | exact Below.refl _ _ | refine bel_drew ?_ | refine bel_alloc ?_ | (apply bel_step; focus assumption)))) : Below wc.heap.size wc w4).size; first | omega | (simp; done) | (simp; omega)) ?_; intro a6 c6 w6 h6 hg6 hn6; have hb6 : Below wc.heap.size wc w6 := Below.grown (by (repeat (with_reducible first | exact Below.refl _ _ | refine bel_drew ?_ | refine bel_alloc ?_ | (apply bel_step; focus assumption)))) hg6 (by have := ((by (repeat (with_reducible first | exact Below.refl _ _ | refine bel_drew ?_ | refine bel_alloc ?_ | (apply bel_step; focus assumption)))) : Below wc.heap.size wc w4).size; first | omega | (simp; done) | (simp; omega)) (fun k e => (H4.out.lt e).1); have HW6 := Lib.hid hb6; have HZ6 := Lib.hid (blk_below hb6 HZW.out); obtain ⟨z0, z1, z2, z3⟩ := cells4 HZ6.out; have zf := unfrozen HZ6.out; have H6 := Lib.hid h6; clear h6 hg6 hn6)
        | fail)
      all_goals
        go_wp2
        (try simp only [Exit.inBlock, Exit.then])
        refine bodyPost_ret (results_mid (P := Tryz.prog) rfl _ _ (w.heap.size + 1 + 1) _ _ _ _ _ _ rfl rfl (set4 HZ6.out _ _ _ _) rfl Tryz.underlying35 rfl (by kernel_rfl)) rfl ?_
        have hK4 := (((keeps_set w6 (w.heap.size + 1 + 1) 0 (.int .u8 57)).same (keeps_set _ (w.heap.size + 1 + 1) 1 (.int .i64 0))).same (keeps_set _ (w.heap.size + 1 + 1) 2 (.string ⟨#[]⟩))).same (keeps_set _ (w.heap.size + 1 + 1) 3 (.slice xa BN.length xc))
        have hsw := HSW.out
        have h7 := H6.out.keeps hK4 (fun k e h => by have := (H6.out.lt e).1; omega) (fun k _ h e => by have : w.heap.size + 3 ≤ k := h; omega)
        refine ⟨a6, c6, xa, BN.length, xc, by rw [List.length_append]; rfl, ?_, bel_sets4 (HBB.out.trans (HW6.out.mono (by omega))) (by omega)⟩
        rw [List.length_append]
        exact (h7.mono (fun k h => Nat.le_trans (Nat.le_add_right _ _) h)).base_le (by omega)
end Go.Proofs.YtehmmokkjojggabGreatDoor
