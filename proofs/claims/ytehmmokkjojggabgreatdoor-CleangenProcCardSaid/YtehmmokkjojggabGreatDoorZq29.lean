/- Contracts and plain lemmas (RefK, RefL): no statement of the seat is proved here. -/
import Derived.Test.YtehmmokkjojggabGreatDoorZq24
import Derived.Test.YtehmmokkjojggabGreatDoorZq07
import Derived.Test.YtehmmokkjojggabGreatDoorZq26
set_option linter.unusedSimpArgs false
set_option linter.unusedVariables false
set_option linter.unusedSectionVars false
/- Walks of package backstepref40: Inverse, at flat statements. -/
namespace Go.Proofs.YtehmmokkjojggabGreatDoor
set_option linter.unusedVariables false
open Go.RowKit

/-- Inverse turns n into R -/
def RInv (n R : Nd) : Prop := ∀ (v : Value) (A : Nat → Prop) (w : World), NdAt A w v n → Calls Tryz.prog 43 #[v] w (InvPost R A w)
/-- the boxes of the argument and of the copy, the zero result, the empty row -/
abbrev RW1 (w : World) (k num : Int) (name : ByteArray) (ka : Option Addr) (kn kc : Nat) : World := ((w.alloc (.cells #[.int .u8 k, .int .i64 num, .string name, .slice ka kn kc] 35)).alloc (.cells #[.int .u8 0, .int .i64 0, .string ⟨#[]⟩, .slice none 0 0] 35)).alloc (.cells #[.int .u8 k, .int .i64 num, .string name, .slice ka kn kc] 35)
abbrev RW (w : World) (k num : Int) (name : ByteArray) (ka : Option Addr) (kn kc : Nat) : World := (RW1 w k num name ka kn kc).alloc (.cells #[] 35)
/-- what lies behind the copy of the kids -/
structure ROut (A : Nat → Prop) (k num : Int) (name : ByteArray) (ka : Option Addr) (kc : Nat) (l : List Nd) (w w3 : World) (a : Option Addr) (c : Nat) : Prop where
  n : w3.heap[w.heap.size]? = some (.cells #[.int .u8 k, .int .i64 num, .string name, .slice ka l.length kc] 35 (0, 0))
  z : w3.heap[w.heap.size + 1]? = some (.cells #[.int .u8 0, .int .i64 0, .string ⟨#[]⟩, .slice none 0 0] 35)
  o : w3.heap[w.heap.size + 2]? = some (.cells #[.int .u8 k, .int .i64 num, .string name, .slice ka l.length kc] 35 (0, 0))
  row : RowsOwn NdE 35 (fun j => A j ∧ j < w.heap.size) (w.heap.size + 3) w3 (.slice a l.length c) l
  below : Below w.heap.size w w3
theorem rw_size (w : World) (k num : Int) (name : ByteArray) (ka : Option Addr) (kn kc : Nat) : (RW w k num name ka kn kc).heap.size = w.heap.size + 4 := by simp
theorem rw_below (w : World) (k num : Int) (name : ByteArray) (ka : Option Addr) (kn kc : Nat) : Below w.heap.size w (RW w k num name ka kn kc) := bel_alloc (bel_alloc (bel_alloc (bel_alloc (Below.refl _ _))))
theorem rw_n (w : World) (k num : Int) (name : ByteArray) (ka : Option Addr) (kn kc : Nat) : (RW w k num name ka kn kc).heap[w.heap.size]? = some (.cells #[.int .u8 k, .int .i64 num, .string name, .slice ka kn kc] 35 (0, 0)) := blk_alloc (blk_alloc (blk_alloc (blk_new rfl)))
theorem rw_z (w : World) (k num : Int) (name : ByteArray) (ka : Option Addr) (kn kc : Nat) : (RW w k num name ka kn kc).heap[w.heap.size + 1]? = some (.cells #[.int .u8 0, .int .i64 0, .string ⟨#[]⟩, .slice none 0 0] 35) := blk_alloc (blk_alloc (blk_new (by simp)))
theorem rw_o (w : World) (k num : Int) (name : ByteArray) (ka : Option Addr) (kn kc : Nat) : (RW w k num name ka kn kc).heap[w.heap.size + 2]? = some (.cells #[.int .u8 k, .int .i64 num, .string name, .slice ka kn kc] 35 (0, 0)) := blk_alloc (blk_new (by simp))
theorem rw_e (w : World) (k num : Int) (name : ByteArray) (ka : Option Addr) (kn kc : Nat) : (RW w k num name ka kn kc).heap[w.heap.size + 3]? = some (.cells #[] 35) := blk_new (by simp)
theorem rout_new {A : Nat → Prop} {k num : Int} {name : ByteArray} {ka : Option Addr} {kc : Nat} {l : List Nd} {w w3 : World} {a : Option Addr} {c : Nat} (h : RowsOwn NdE 35 (fun j => A j ∧ j < w.heap.size) (w.heap.size + 3) w3 (.slice a (([] : List Nd).length + l.length) c) ([] ++ l)) (hg : (RW w k num name ka l.length kc).grownBy w3 (Value.slice (some ⟨w.heap.size + 3, 0, none⟩) 0 0).ownBlock) :
    ROut A k num name ka kc l w w3 a c := by
  have hb : ∀ q, q < w.heap.size + 3 → w3.heap[q]? = (RW w k num name ka l.length kc).heap[q]? := fun q hq => hg.block q (by rw [rw_size]; omega) (fun e => by simp [Value.ownBlock] at e; omega)
  refine ⟨(hb _ (by omega)).trans (rw_n ..), (hb _ (by omega)).trans (rw_z ..), (hb _ (by omega)).trans (rw_o ..), by simpa using h, (rw_below ..).grown hg (by rw [rw_size]; omega) (fun q e => by simp [Value.ownBlock] at e; omega)⟩
/-- what append asks -/
theorem rw_rows {A : Nat → Prop} {k num : Int} {name : ByteArray} {ka : Option Addr} {kc : Nat} {l : List Nd} {w : World} (hk : KidsAt A w (.slice ka l.length kc) l) :
    RowsOwn NdE 35 (fun j => A j ∧ j < w.heap.size) (w.heap.size + 3) (RW w k num name ka l.length kc) (.slice (some ⟨w.heap.size + 3, 0, none⟩) 0 0) [] ∧
    RowsAt NdE (fun j => A j ∧ j < w.heap.size) (RW w k num name ka l.length kc) (.slice ka l.length kc) l ∧
    ∀ b, b < (RW w k num name ka l.length kc).heap.size → (A b ∧ b < w.heap.size) → (A b ∧ b < w.heap.size) ∧ (Value.slice (some ⟨w.heap.size + 3, 0, none⟩) 0 0).ownBlock ≠ some b :=
  ⟨rows_empty (rw_e ..) (Nat.le_refl _), (kids_rows.1 hk).stays ⟨(rw_below ..).size, fun b hb a => ⟨(rw_below ..).block b hb, a, hb⟩⟩, fun b _ a => ⟨a, fun e => by simp [Value.ownBlock] at e; omega⟩⟩

/-- where the data of the result lie before it is stored -/
def RD (A : Nat → Prop) (w : World) (j : Nat) : Prop := (A j ∧ j < w.heap.size) ∨ w.heap.size + 3 ≤ j
/-- the result is stored -/
theorem rinv_done {A : Nat → Prop} {w w5 : World} {k num : Int} {name : ByteArray} {l : List Nd} {a : Option Addr} {c : Nat} (hz : w5.heap[w.heap.size + 1]? = some (.cells #[.int .u8 0, .int .i64 0, .string ⟨#[]⟩, .slice none 0 0] 35)) (hb : Below w.heap.size w w5) (hk : KidsAt (RD A w) w5 (.slice a l.length c) l) (hok : (Nd.mk k num name l).Ok1) :
    InvPost (.mk k num name l) A w (.returned (.agg #[.int .u8 k, .int .i64 num, .string name, .slice a l.length c])) ((((w5.setCell ⟨w.heap.size + 1, 0, none⟩ (.int .u8 k)).setCell ⟨w.heap.size + 1, 1, none⟩ (.int .i64 num)).setCell ⟨w.heap.size + 1, 2, none⟩ (.string name)).setCell ⟨w.heap.size + 1, 3, none⟩ (.slice a l.length c)) := by
  have hK4 := (((keeps_set w5 (w.heap.size + 1) 0 (.int .u8 k)).same (keeps_set _ (w.heap.size + 1) 1 (.int .i64 num))).same (keeps_set _ (w.heap.size + 1) 2 (.string name))).same (keeps_set _ (w.heap.size + 1) 3 (.slice a l.length c))
  refine ⟨a, c, rfl, ⟨hok, _, rfl, hk.stays ⟨hK4.size, fun b hb a => ⟨hK4.block b hb (fun e => ?_), ?_⟩⟩⟩, bel_sets4 hb (by omega)⟩
  · rcases a with ⟨_, a⟩ | a <;> omega
  · rcases a with ⟨a, _⟩ | a
    · exact .inl a
    · exact .inr (by omega)
theorem ROut.shut {A : Nat → Prop} {k num : Int} {name : ByteArray} {ka : Option Addr} {kc : Nat} {l : List Nd} {w w3 : World} {a : Option Addr} {c : Nat} (h : ROut A k num name ka kc l w w3 a c) (hl : l.length ≤ 100000) : KidsAt (RD A w) w3 (.slice a l.length c) l :=
  kids_rows.2 (h.row.shut (fun j d => .inl d) (fun j e => .inr (h.row.lt e).1) (by unfold maxLen; omega))
/-- stores into the copy -/
theorem kids_o {A : Nat → Prop} {w w3 : World} {v x : Value} {l : List Nd} {o : Nat} (h : KidsAt (RD A w) w3 v l) : KidsAt (RD A w) (w3.setCell ⟨w.heap.size + 2, o, none⟩ x) v l :=
  h.stays ⟨(keeps_set w3 (w.heap.size + 2) o x).size, fun b hb a => ⟨(keeps_set w3 (w.heap.size + 2) o x).block b hb (fun e => by
    rcases a with ⟨_, a⟩ | a <;> omega), a⟩⟩
theorem ok_kind {k k' num : Int} {name : ByteArray} {l l' : List Nd} (h : (Nd.mk k num name l).Ok1) (hk : 0 ≤ k' ∧ k' ≤ 255) : (Nd.mk k' num name l').Ok1 := ⟨hk, h.2⟩

set_option maxRecDepth 100000 in set_option maxHeartbeats 3200000 in theorem rinv_flat (k k' num : Int) (name : ByteArray) (l : List Nd) (hkk : k = 40 ∧ k' = 41 ∨ k = 44 ∧ k' = 45 ∨ k = 45 ∧ k' = 44 ∨ k = 50 ∧ k' = 51) (hl : l.length ≤ 100000) : RInv (.mk k num name l) (.mk k' num name l) := by
  intro v A w hv
  obtain ⟨hok, hlen, ka, kc, he, hk⟩ := hv.open
  have he' : v = .agg #[.int .u8 k, .int .i64 num, .string name, .slice ka l.length kc] := he
  subst he'
  have HR := Lib.hid (rw_rows (k := k) (num := num) (name := name) (show KidsAt A w (.slice ka l.length kc) l from hk))
  have HOK := Lib.hid hok
  clear hv hk hok hlen he
  rcases hkk with ⟨rfl, rfl⟩ | ⟨rfl, rfl⟩ | ⟨rfl, rfl⟩ | ⟨rfl, rfl⟩
  all_goals
    go_enter Tryz.func43, Tryz.ntmps43
    go_wp2_with (at_builtin; refine wpl_rows TNd rfl (by decide) rfl (.tmp 6) (.tmp 8) rfl rfl rfl HR.out.1 HR.out.2.1 HR.out.2.2 (by unfold maxLen; simp; omega) (by simp; omega) (by rw [rw_size]; omega) ?_; intro a c w3 h3 hg3 hn3; have HO := Lib.hid (rout_new h3 hg3); obtain ⟨n0, n1, n2, n3⟩ := cells4 HO.out.n; obtain ⟨o0, o1, o2, o3⟩ := cells4 HO.out.o; obtain ⟨z0, z1, z2, z3⟩ := cells4 HO.out.z; have fo := unfrozen HO.out.o; have fz := unfrozen HO.out.z; clear h3 hg3 hn3)
    (try simp only [Exit.inBlock, Exit.then])
    refine bodyPost_ret (results_cell_row (P := Tryz.prog) rfl _ _ (w.heap.size + 1) _ _ _ _ rfl (set4 (blk_set (blk_set HO.out.z (by omega)) (by omega)) _ _ _ _) Tryz.underlying35 rfl (by kernel_rfl)) rfl ?_
    exact rinv_done (blk_set (blk_set HO.out.z (by omega)) (by omega)) ((HO.out.below.setCell (by show w.heap.size ≤ w.heap.size + 1 + 1; omega) _).setCell (by show w.heap.size ≤ w.heap.size + 1 + 1; omega) _) (kids_o (kids_o (HO.out.shut hl))) (ok_kind HOK.out (by omega))
end Go.Proofs.YtehmmokkjojggabGreatDoor
/- Walks of package backstepref40: Inverse, at a block. -/
namespace Go.Proofs.YtehmmokkjojggabGreatDoor
set_option linter.unusedVariables false
open Go.RowKit

theorem wrap_in64 {n : Int} (h : In64 n) : IntKind.i64.wrap n = n := by
  unfold In64 at h
  unfold IntKind.wrap
  have e1 : ((2 : Int) ^ IntKind.bits .i64) = 18446744073709551616 := by decide
  have e2 : ((2 : Int) ^ (IntKind.bits .i64 - 1)) = 9223372036854775808 := by decide
  simp only [e1, e2, IntKind.signed, Bool.true_and, decide_eq_true_eq]
  split <;> omega
/-- the row under way: k inverses stand at its end -/
def mixN (l l' : List Nd) (k : Nat) : List Nd := l.take (l.length - k) ++ (l'.take k).reverse
theorem mix_len {l l' : List Nd} (h : l'.length = l.length) {k : Nat} (hk : k ≤ l.length) : (mixN l l' k).length = l.length := by simp [mixN]; omega
theorem mix_0 (l l' : List Nd) : mixN l l' 0 = l := by simp [mixN]
theorem mix_all {l l' : List Nd} (h : l'.length = l.length) : mixN l l' l.length = l'.reverse := by simp [mixN, ← h]
theorem mix_set {l l' : List Nd} (h : l'.length = l.length) {k q : Nat} (hq : l.length = k + 1 + q) : (mixN l l' k).set q (at' l' k) = mixN l l' (k + 1) := by
  unfold mixN
  have e1 : l.length - k = q + 1 := by omega
  have e2 : l.length - (k + 1) = q := by omega
  rw [e1, e2]
  have e3 : l.take (q + 1) = l.take q ++ [at' l q] := by rw [List.take_add_one, List.getElem?_eq_getElem (by omega), at_eq (by omega)]; rfl
  have e4 : l'.take (k + 1) = l'.take k ++ [at' l' k] := by rw [List.take_add_one, List.getElem?_eq_getElem (by omega), at_eq (by omega)]; rfl
  rw [e3, e4, List.append_assoc, List.set_append_right _ _ (by simp; omega)]
  have e5 : q - (l.take q).length = 0 := by simp; omega
  rw [e5, List.reverse_append]
  rfl

/-- the loop: k kids are done -/
structure BSt (A : Nat → Prop) (num : Int) (name : ByteArray) (ka : Option Addr) (kc : Nat) (l l' : List Nd) (w : World) (a : Option Addr) (c : Nat) (k : Nat) (wr : World) : Prop where
  n : wr.heap[w.heap.size]? = some (.cells #[.int .u8 57, .int .i64 num, .string name, .slice ka l.length kc] 35 (0, 0))
  z : wr.heap[w.heap.size + 1]? = some (.cells #[.int .u8 0, .int .i64 0, .string ⟨#[]⟩, .slice none 0 0] 35)
  o : wr.heap[w.heap.size + 2]? = some (.cells #[.int .u8 57, .int .i64 num, .string name, .slice a l.length c] 35 (0, 0))
  row : RowsOwn NdE 35 (RD A w) (w.heap.size + 3) wr (.slice a l.length c) (mixN l l' k)
  below : Below w.heap.size w wr
theorem ROut.start {A : Nat → Prop} {num : Int} {name : ByteArray} {ka : Option Addr} {kc : Nat} {l l' : List Nd} {w w3 : World} {a : Option Addr} {c : Nat} (h : ROut A 57 num name ka kc l w w3 a c) : BSt A num name ka kc l l' w a c 0 (w3.setCell ⟨w.heap.size + 2, 3, none⟩ (.slice a l.length c)) :=
  ⟨blk_set h.n (by omega), blk_set h.z (by omega), set1_3 h.o _, by
    rw [mix_0]
    exact (h.row.mono (fun j d => .inl d)).keeps (keeps_set w3 (w.heap.size + 2) 3 _) (fun j e e2 => by have := (h.row.lt e).1; omega) (fun j _ d e => by rcases d with d | d <;> omega), h.below.setCell (by show w.heap.size ≤ w.heap.size + 2; omega) _⟩
theorem RD.new {A : Nat → Prop} {w wr : World} {j : Nat} (h : NewB (fun j => A j ∧ j < w.heap.size) wr j) (hs : w.heap.size + 3 ≤ wr.heap.size) : RD A w j := by
  rcases h with h | h
  · exact .inl h
  · exact .inr (by omega)
/-- a kid's inverse is stored -/
theorem BSt.next {A : Nat → Prop} {num : Int} {name : ByteArray} {ka : Option Addr} {kc : Nat} {l l' : List Nd} {w wr w6 : World} {g c k q : Nat} (h : BSt A num name ka kc l l' w (some ⟨g, 0, none⟩) c k wr) (hl : l'.length = l.length) (hq : l.length = k + 1 + q) (hb : Below wr.heap.size wr w6) {x0 x1 x2 x3 : Value} (hx : NdAt (NewB (fun j => A j ∧ j < w.heap.size) wr) w6 (.agg #[x0, x1, x2, x3]) (at' l' k)) :
    BSt A num name ka kc l l' w (some ⟨g, 0, none⟩) c (k + 1) ((((w6.setCell ⟨g, q * 4, none⟩ x0).setCell ⟨g, q * 4 + 1, none⟩ x1).setCell ⟨g, q * 4 + 2, none⟩ x2).setCell ⟨g, q * 4 + 3, none⟩ x3) := by
  have hg := h.row.lt (k := g) rfl
  have hK4 := (((keeps_set w6 g (q * 4) x0).same (keeps_set _ g (q * 4 + 1) x1)).same (keeps_set _ g (q * 4 + 2) x2)).same (keeps_set _ g (q * 4 + 3) x3)
  have hs := hb.size
  have hws : w.heap.size + 3 ≤ wr.heap.size := by omega
  have hbl : ∀ {b : Nat} {y : Obj}, wr.heap[b]? = some y → b < w.heap.size + 3 → ((((w6.setCell ⟨g, q * 4, none⟩ x0).setCell ⟨g, q * 4 + 1, none⟩ x1).setCell ⟨g, q * 4 + 2, none⟩ x2).setCell ⟨g, q * 4 + 3, none⟩ x3).heap[b]? = some y := fun {b y} hy hlt => (hK4.block b (by omega) (by omega)).trans (blk_below hb hy)
  refine ⟨hbl h.n (by omega), hbl h.z (by omega), hbl h.o (by omega), ?_, ((((h.below.trans (hb.mono h.below.size)).setCell (by show w.heap.size ≤ g; omega) _).setCell (by show w.heap.size ≤ g; omega) _).setCell (by show w.heap.size ≤ g; omega) _).setCell (by show w.heap.size ≤ g; omega) _⟩
  rw [← mix_set hl hq]
  refine (h.row.below hb).setN (by rw [mix_len hl (by omega)]; omega) (hx.stays ⟨Nat.le_refl _, fun j _ d => ⟨rfl, RD.new d hws, fun e => ?_⟩⟩)
  subst e
  rcases d with d | d <;> omega

set_option maxRecDepth 100000 in set_option maxHeartbeats 3200000 in theorem rinv_block (num : Int) (name : ByteArray) (l l' : List Nd) (hl : l'.length = l.length) (hn : l.length ≤ 100000) (HI : Hid (∀ j, j < l.length → RInv (at' l j) (at' l' j))) : RInv (.mk 57 num name l) (.mk 57 num name l'.reverse) := by
  intro v A w hv
  obtain ⟨hok, hlen, ka, kc, he, hk⟩ := hv.open
  have he' : v = .agg #[.int .u8 57, .int .i64 num, .string name, .slice ka l.length kc] := he
  subst he'
  have HK : Hid (KidsAt (fun j => A j ∧ j < w.heap.size) w (.slice ka l.length kc) l) := Lib.hid (KidsAt.stays ⟨Nat.le_refl _, fun j hj a => ⟨rfl, a, hj⟩⟩ hk)
  have HR := Lib.hid (rw_rows (k := 57) (num := num) (name := name) (show KidsAt A w (.slice ka l.length kc) l from hk))
  have HOK := Lib.hid hok
  have HL := Lib.hid hl
  clear hv hk hok hlen he hl
  go_enter Tryz.func43, Tryz.ntmps43
  go_wp2_with (at_builtin; refine wpl_rows TNd rfl (by decide) rfl (.tmp 6) (.tmp 8) rfl rfl rfl HR.out.1 HR.out.2.1 HR.out.2.2 (by unfold maxLen; simp; omega) (by simp; omega) (by rw [rw_size]; omega) ?_; intro a c w3 h3 hg3 hn3; have HO := Lib.hid (rout_new h3 hg3); obtain ⟨n0, n1, n2, n3⟩ := cells4 HO.out.n; obtain ⟨o0, o1, o2, o3⟩ := cells4 HO.out.o; have fo := unfrozen HO.out.o; clear h3 hg3 hn3)
  have HST := Lib.hid (HO.out.start (l' := l'))
  go_loopw [4] (fun i wr => ∃ k : Nat, i = .int .i64 k ∧ k ≤ l.length ∧ BSt A num name ka kc l l' w a c k wr) (fun i _ => l.length - (intOf i).toNat)
  case atStart => exact ⟨0, rfl, Nat.zero_le _, HST.out⟩
  case round =>
    obtain ⟨k, rfl, hk, hst⟩ := hrel
    have HS := Lib.hid hst
    have hbl := hst.below
    clear hst
    obtain ⟨p0, p1, p2, p3⟩ := cells4 HS.out.n
    obtain ⟨r0, r1, r2, r3⟩ := cells4 HS.out.o
    by_cases hlt : k < l.length
    · obtain ⟨q, hq⟩ : ∃ q, l.length = k + 1 + q := ⟨l.length - (k + 1), by omega⟩
      have hml : (mixN l l' k).length = l.length := mix_len HL.out hk
      obtain ⟨g, cap, cur, he, hnc, hgb, hcs, hgw⟩ := HS.out.row.cellN (by omega)
      rw [hml] at he
      simp only [Value.slice.injEq, true_and] at he
      obtain ⟨rfl, rfl⟩ := he
      obtain ⟨b, off, cap2, kb, kd, he, hb, _, hAb, c0, c1, c2, c3, hnd⟩ := (HK.out.stays (Stays.of_below hbl)).at hlt
      simp only [Value.slice.injEq] at he
      obtain ⟨rfl, -, rfl⟩ := he
      have HIH := Lib.hid (HI.out k hlt)
      have HND := Lib.hid hnd
      have HGB := Lib.hid hgb
      have hC : Hid (∀ w1, Below wr.heap.size wr w1 → (w1.cell? ⟨w.heap.size, 3, none⟩ = some (.slice (some ⟨b, off, none⟩) l.length kc) ∧ w1.cell? ⟨w.heap.size + 1 + 1, 3, none⟩ = some (.slice (some ⟨g, 0, none⟩) l.length c)) ∧ w1.cell? ⟨b, off + k * 4, none⟩ = some (.int .u8 (at' l k).kind) ∧ w1.cell? ⟨b, off + k * 4 + 1, none⟩ = some (.int .i64 (at' l k).num) ∧ w1.cell? ⟨b, off + k * 4 + 2, none⟩ = some (.string (at' l k).name) ∧ w1.cell? ⟨b, off + k * 4 + 3, none⟩ = some (.slice kb (at' l k).kids.length kd)) := Lib.hid (fun w1 hw => ⟨⟨(cells4 (blk_below hw HS.out.n)).2.2.2, (cells4 (blk_below hw HS.out.o)).2.2.2⟩, (hw.cell hb).trans c0, (hw.cell hb).trans c1, (hw.cell hb).trans c2, (hw.cell hb).trans c3⟩)
      have i0 : (0 : Int) ≤ (k : Int) := by omega
      have i1 : (k : Int) < (l.length : Int) := by omega
      have e1 : (l.length : Int) - 1 - (k : Int) = (q : Int) := by omega
      have i2 : (q : Int) < (l.length : Int) := by omega
      have i3 : (0 : Int) ≤ (q : Int) := by omega
      have hw1 : IntKind.i64.wrap ((l.length : Int) - 1) = (l.length : Int) - 1 := wrap_in64 (by unfold In64; omega)
      have hw2 : IntKind.i64.wrap (q : Int) = (q : Int) := wrap_in64 (by unfold In64; omega)
      have hgl : g < wr.heap.size := (HS.out.row.lt rfl).2
      have hy : ∀ j, j < l.length * 4 → wr.cell? ⟨g, j, none⟩ = some (cur.getD j undef) := fun j hj => by
        have : j < cur.size := by rw [hcs]; omega
        simp only [World.cell?, hgb]
        rw [Array.getElem?_eq_getElem this, Array.getD_eq_getD_getElem?, Array.getElem?_eq_getElem this]; rfl
      have HY : Hid (wr.cell? ⟨g, q * 4, none⟩ = some (cur.getD (q * 4) undef) ∧ wr.cell? ⟨g, q * 4 + 1, none⟩ = some (cur.getD (q * 4 + 1) undef) ∧ wr.cell? ⟨g, q * 4 + 2, none⟩ = some (cur.getD (q * 4 + 2) undef) ∧ wr.cell? ⟨g, q * 4 + 3, none⟩ = some (cur.getD (q * 4 + 3) undef)) := Lib.hid ⟨hy _ (by omega), hy _ (by omega), hy _ (by omega), hy _ (by omega)⟩
      clear hy
      have HQ := Lib.hid hq
      have hbw : b < w.heap.size := hAb.2
      have hbg : b ≠ g := by omega
      have hC2 : Hid (∀ (w1 : World) (x0 x1 x2 x3 : Value), Below wr.heap.size wr w1 → (((((w1.setCell ⟨g, q * 4, none⟩ x0).setCell ⟨g, q * 4 + 1, none⟩ x1).setCell ⟨g, q * 4 + 2, none⟩ x2).setCell ⟨g, q * 4 + 3, none⟩ x3).cell? ⟨w.heap.size, 3, none⟩ = some (.slice (some ⟨b, off, none⟩) l.length kc) ∧ ((((w1.setCell ⟨g, q * 4, none⟩ x0).setCell ⟨g, q * 4 + 1, none⟩ x1).setCell ⟨g, q * 4 + 2, none⟩ x2).setCell ⟨g, q * 4 + 3, none⟩ x3).cell? ⟨w.heap.size + 1 + 1, 3, none⟩ = some (.slice (some ⟨g, 0, none⟩) l.length c)) ∧ ((((w1.setCell ⟨g, q * 4, none⟩ x0).setCell ⟨g, q * 4 + 1, none⟩ x1).setCell ⟨g, q * 4 + 2, none⟩ x2).setCell ⟨g, q * 4 + 3, none⟩ x3).cell? ⟨b, off + k * 4, none⟩ = some (.int .u8 (at' l k).kind) ∧ ((((w1.setCell ⟨g, q * 4, none⟩ x0).setCell ⟨g, q * 4 + 1, none⟩ x1).setCell ⟨g, q * 4 + 2, none⟩ x2).setCell ⟨g, q * 4 + 3, none⟩ x3).cell? ⟨b, off + k * 4 + 1, none⟩ = some (.int .i64 (at' l k).num) ∧ ((((w1.setCell ⟨g, q * 4, none⟩ x0).setCell ⟨g, q * 4 + 1, none⟩ x1).setCell ⟨g, q * 4 + 2, none⟩ x2).setCell ⟨g, q * 4 + 3, none⟩ x3).cell? ⟨b, off + k * 4 + 2, none⟩ = some (.string (at' l k).name) ∧ ((((w1.setCell ⟨g, q * 4, none⟩ x0).setCell ⟨g, q * 4 + 1, none⟩ x1).setCell ⟨g, q * 4 + 2, none⟩ x2).setCell ⟨g, q * 4 + 3, none⟩ x3).cell? ⟨b, off + k * 4 + 3, none⟩ = some (.slice kb (at' l k).kids.length kd)) := Lib.hid (fun w1 x0 x1 x2 x3 hw => by
        have hK4 := (((keeps_set w1 g (q * 4) x0).same (keeps_set _ g (q * 4 + 1) x1)).same (keeps_set _ g (q * 4 + 2) x2)).same (keeps_set _ g (q * 4 + 3) x3)
        have hsz := hw.size
        have hgb2 : b ≠ g := hbg
        have hc : ∀ (bb o : Nat), bb < wr.heap.size → bb ≠ g → ((((w1.setCell ⟨g, q * 4, none⟩ x0).setCell ⟨g, q * 4 + 1, none⟩ x1).setCell ⟨g, q * 4 + 2, none⟩ x2).setCell ⟨g, q * 4 + 3, none⟩ x3).cell? ⟨bb, o, none⟩ = w1.cell? ⟨bb, o, none⟩ := fun bb o h1 h2 => hK4.cell (p := ⟨bb, o, none⟩) (Nat.lt_of_lt_of_le h1 hsz) h2
        obtain ⟨⟨t0, t1⟩, t2, t3, t4, t5⟩ := hC.out w1 hw
        exact ⟨⟨(hc _ _ (by omega) (by omega)).trans t0, (hc _ _ (by omega) (by omega)).trans t1⟩, (hc _ _ hb hgb2).trans t2, (hc _ _ hb hgb2).trans t3, (hc _ _ hb hgb2).trans t4, (hc _ _ hb hgb2).trans t5⟩)
      clear hq hml hnd hgb c0 c1 c2 c3 p0 p1 p2 p3 r0 r1 r2 r3
      obtain ⟨⟨s0, s1⟩, s2, s3, s4, s5⟩ := hC.out wr (Below.refl _ _)
      go_wp2
      go_region_held3 (fun w1 => (w1.cell? ⟨w.heap.size, 3, none⟩ = some (.slice (some ⟨b, off, none⟩) l.length kc) ∧ w1.cell? ⟨w.heap.size + 1 + 1, 3, none⟩ = some (.slice (some ⟨g, 0, none⟩) l.length c)) ∧ w1.cell? ⟨b, off + k * 4, none⟩ = some (.int .u8 (at' l k).kind) ∧ w1.cell? ⟨b, off + k * 4 + 1, none⟩ = some (.int .i64 (at' l k).num) ∧ w1.cell? ⟨b, off + k * 4 + 2, none⟩ = some (.string (at' l k).name) ∧ w1.cell? ⟨b, off + k * 4 + 3, none⟩ = some (.slice kb (at' l k).kids.length kd))
        (first | (with_reducible exact hC2.out _ _ _ _ _ (by (repeat (with_reducible first | exact Below.refl _ _ | refine bel_drew ?_ | refine bel_alloc ?_ | (apply bel_step; focus assumption))))) | (with_reducible exact hC.out _ (by (repeat (with_reducible first | exact Below.refl _ _ | refine bel_drew ?_ | refine bel_alloc ?_ | (apply bel_step; focus assumption))))))
        (first
        | (go_at_call 43; refine (HIH.out _ _ _ (HND.out.stays (Stays.of_below (by (repeat (with_reducible first | exact Below.refl _ _ | refine bel_drew ?_ | refine bel_alloc ?_ | (apply bel_step; focus assumption))))))).mono ?_; rintro e w6 ⟨xa, xc, rfl, hx6, hb6⟩; have fg := unfrozen (blk_below hb6 (blk_drew HGB.out)); have y0 := (hb6.cell (p := ⟨g, q * 4, none⟩) hgl).trans HY.out.1; have y1 := (hb6.cell (p := ⟨g, q * 4 + 1, none⟩) hgl).trans HY.out.2.1; have y2 := (hb6.cell (p := ⟨g, q * 4 + 2, none⟩) hgl).trans HY.out.2.2.1; have y3 := (hb6.cell (p := ⟨g, q * 4 + 3, none⟩) hgl).trans HY.out.2.2.2; have HX6 := Lib.hid hx6; clear hx6)
        | fail)
      have HBN := Lib.hid (HS.out.next HL.out HQ.out ((bel_drew (Below.refl _ _)).trans (hb6.mono (Nat.le_refl _))) (x0 := .int .u8 (at' l' k).kind) (x1 := .int .i64 (at' l' k).num) (x2 := .string (at' l' k).name) (x3 := .slice xa (at' l' k).kids.length xc) HX6.out)
      go_wp2
      exact ⟨⟨k + 1, by go_num, by omega, HBN.out⟩, by simp [intOf]; omega⟩
    · obtain rfl : k = l.length := by omega
      have hlt' : ¬ (l.length : Int) < (l.length : Int) := by omega
      obtain ⟨z0, z1, z2, z3⟩ := cells4 HS.out.z
      have fz := unfrozen HS.out.z
      go_wp2
      (try simp only [Exit.inBlock, Exit.then])
      refine bodyPost_ret (results_cell_row (P := Tryz.prog) rfl _ _ (w.heap.size + 1) _ _ _ _ rfl (set4 HS.out.z _ _ _ _) Tryz.underlying35 rfl (by kernel_rfl)) rfl ?_
      have hrow := HS.out.row
      rw [mix_all HL.out] at hrow
      have hll : l'.reverse.length = l.length := by rw [List.length_reverse, HL.out]
      have hkk : KidsAt (RD A w) wr (.slice a l'.reverse.length c) l'.reverse := kids_rows.2 (by
        rw [hll]
        have := hrow.shut (A := RD A w) (fun j d => d) (fun j e => .inr (hrow.lt e).1) (by rw [hll]; unfold maxLen; omega)
        exact this)
      have := rinv_done (num := num) (name := name) HS.out.z hbl hkk (ok_kind (k' := 57) HOK.out (by omega))
      rw [hll] at this
      exact this
end Go.Proofs.YtehmmokkjojggabGreatDoor
