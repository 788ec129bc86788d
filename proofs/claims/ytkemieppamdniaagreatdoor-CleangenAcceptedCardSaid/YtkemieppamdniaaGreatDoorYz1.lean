/- Contracts and plain lemmas (PPrc, LwA, LwB, LwC): no statement of the seat is proved here. -/
import Derived.Test.YtkemieppamdniaaGreatDoorYq28
import Derived.Test.YtkemieppamdniaaGreatDoorYk1
import Derived.Test.YtkemieppamdniaaGreatDoorYl2
namespace Go.Proofs.YtkemieppamdniaaGreatDoor
set_option linter.unusedVariables false
set_option linter.unusedSimpArgs false

theorem sizeL_rev : ∀ l : List Nd, sizeL l.reverse = sizeL l
  | [] => rfl
  | n :: r => by rw [List.reverse_cons, sizeL_append, sizeL_rev r, sizeL, sizeL, sizeL]; omega
theorem sizeL_inv : ∀ l : List Nd, (∀ s ∈ l, sizeN (invN s) = sizeN s) → sizeL (invL l) = sizeL l
  | [], _ => by rw [invL]
  | n :: r, h => by
    rw [invL, sizeL, sizeL, h n (List.mem_cons_self ..), sizeL_inv r (fun s hs => h s (List.mem_cons_of_mem _ hs))]
theorem size_block (l : List Nd) : sizeN (blockN l) = sizeL l + 1 := by rw [blockN, size_node]
theorem inv_block (l : List Nd) : invN (blockN l) = .mk 57 0 ByteArray.empty (invL l).reverse := by rw [blockN, nodeN, invN, invK]; rfl
theorem cs_size {n : Nd} (h : CS n) : sizeN (invN n) = sizeN n := by
  induction h with
  | plus s e hs he h57 hz =>
    have : invN (plusN s e) = .mk 41 0 ByteArray.empty [vN s, e] := by rw [plusN, nodeN, invN, invK]; rfl
    rw [this, plusN, nodeN, sizeN, sizeN]
  | call p args hl =>
    have : invN (callN p args) = .mk 51 0 p (args.map vN) := by rw [callN, nodeN, invN, invK]; rfl
    rw [this, size_call, sizeN, sizeL_vs]
  | cond a d l1 l2 h1 h2 n1 n2 i1 i2 =>
    have : invN (nodeN 52 ByteArray.empty [a, blockN l1, blockN l2, d]) = .mk 52 0 ByteArray.empty [d, invN (blockN l1), invN (blockN l2), a] := by
      rw [nodeN, invN, invK]; simp only [invL]; rfl
    rw [this, size_node, sizeN, inv_block, inv_block]
    simp only [sizeL, sizeN, sizeL_rev, size_block]
    rw [sizeL_inv l1 i1, sizeL_inv l2 i2]
    omega
  | loc a c k k' s hk hs ha hc ka kc za zc =>
    have : invN (nodeN 54 headS [a, blockN [nodeN k s [vN headS]], c]) = .mk 54 0 headS [c, .mk 57 0 ByteArray.empty [.mk k' 0 s [vN headS]], a] := by
      rcases hk with ⟨rfl, rfl⟩ | ⟨rfl, rfl⟩
      · rw [nodeN, invN, invK]; simp only [invL]; rfl
      · rw [nodeN, invN, invK]; simp only [invL]; rfl
    rw [this]
    simp only [nodeN, blockN, sizeN, sizeL]
    omega
theorem locals_size : ∀ (ts : List Par) (n : Nd), sizeN (localsN ts n) ≤ sizeN n + 4 * ts.length
  | [], n => by simp [localsN]
  | t :: r, n => by
    have h := locals_size r n
    have e : localsN (t :: r) n = locN t (localsN r n) := rfl
    rw [e, locN, size_block]
    split
    · simp only [sizeL, size_node, List.length_cons]; omega
    · simp only [sizeL, size_node, size_num, List.length_cons]; omega
theorem result_size (g : AFn) : sizeN (resultN g) ≤ 3 := by
  rw [resultN]
  split
  · rw [size_call]; simp
  · rw [size_node]; simp only [sizeL, size_v]; omega
/-- the whole procedure is no great tree -/
theorem proc_size {lib : List Fn} (g : AFn) (hg : GoodBs lib g.body) (hz : sizeBs g.body ≤ 10000) (ht : g.temps.length ≤ 4000) : sizeN (procB g) ≤ 1000000 := by
  have hcs := cs_binds lib selfF (fun _ => by simp [selfF]) g.body hg hz
  have h1 := bindsN_size selfF 0 (fun nm => Nat.le_refl 0) g.body
  have h2 := sizeL_inv (bindsN selfF g.body) (fun s hs => cs_size (hcs s hs))
  have h3 := locals_size g.temps (blockN (bindsN selfF g.body ++ [resultN g] ++ (invL (bindsN selfF g.body)).reverse))
  have h4 := result_size g
  rw [size_block, sizeL_append, sizeL_append, sizeL_rev, h2] at h3
  simp only [sizeL] at h3
  unfold procB
  omega
end Go.Proofs.YtkemieppamdniaaGreatDoor
namespace Go.Proofs.YtkemieppamdniaaGreatDoor
set_option linter.unusedVariables false
set_option linter.unusedSimpArgs false
open Go.RowKit

theorem TPrc : RowT Tryz.prog 74 52 (.agg #[.string ByteArray.empty, .slice none 0 0, .int .u8 0, .int .i64 0, .string ByteArray.empty, .slice none 0 0]) 6 96 := ⟨Tryz.underlying74, by kernel_rfl⟩
/-- the procedure of a function keeps the limits -/
def LimOk (g : AFn) : Prop := depthN (procB g) ≤ 80 ∧ sizeN (procB g) ≤ 2000 ∧ (paramsN g).length ≤ 8
/-- what Proc leaves -/
theorem pr_cases {g : AFn} {w : World} {e : Ending} {w' : World} (h : ProcPost g w e w') : ∃ (pn : ByteArray) (xa : Option Addr) (xl xc : Nat) (bk bn : Int) (bs : ByteArray) (ya : Option Addr) (yn yc : Nat) (er : Int), e = .returned (.tuple #[.agg #[.string pn, .slice xa xl xc, .int .u8 bk, .int .i64 bn, .string bs, .slice ya yn yc], .int .i64 er]) ∧ Below w.heap.size w w' ∧
    (er ≠ 0 ∨ er = 0 ∧ LimOk g ∧ pn = g.name ∧ xl = (paramsN g).length ∧ bk = 57 ∧ bn = 0 ∧ bs = ⟨#[]⟩ ∧ RowsAt DclE (Up w.heap.size) w' (.slice xa xl xc) (paramsN g) ∧ NdAt (Up w.heap.size) w' (.agg #[.int .u8 57, .int .i64 0, .string ⟨#[]⟩, .slice ya yn yc]) (procB g)) := by
  obtain ⟨hb, h1, h2, h3⟩ := h
  by_cases q1 : 80 < depthN (procB g)
  · exact ⟨_, _, _, _, _, _, _, _, _, _, _, h1 q1, hb, .inl (by omega)⟩
  · by_cases q2 : 2000 < sizeN (procB g) ∨ 8 < (paramsN g).length
    · exact ⟨_, _, _, _, _, _, _, _, _, _, _, h2 q1 q2, hb, .inl (by omega)⟩
    · obtain ⟨a, c, ka, kn, kc, he, hr, hn⟩ := h3 q1 q2
      exact ⟨_, _, _, _, _, _, _, _, _, _, _, he, hb, .inr ⟨rfl, ⟨by omega, by omega, by omega⟩, rfl, rfl, rfl, rfl, rfl, hr, hn⟩⟩
theorem data_grow {D : Nat → Prop} {w w' : World} {v v' : Value} (hg : w.grownBy w' v.ownBlock) (hn : NewOr w v v') : Stays (fun b => D b ∧ v.ownBlock ≠ some b) (fun b => D b ∧ v'.ownBlock ≠ some b) w w' :=
  ⟨hg.size, fun b hb hne => ⟨hg.block b hb (fun e => hne.2 e.symm), hne.1, fun e => by
    rcases hn b e with e | e
    · exact hne.2 e
    · omega⟩⟩
/-- the main block: one call of the function's procedure -/
def mainN (g : AFn) : Nd := blockN [callN g.name ((paramsN g).map Dcl.name)]
/-- the program behind k procedures -/
structure PgAt (lib : List Fn) (i : Nat) (W : World) (G k : Nat) (va : Option Addr) (vn vc : Nat) (pa : Option Addr) (pc : Nat) (mk mn : Int) (ms : ByteArray) (ka : Option Addr) (kn kc : Nat) (wr : World) : Prop where
  box : wr.heap[G]? = some (.cells #[.slice va vn vc, .slice pa k pc, .int .u8 mk, .int .i64 mn, .string ms, .slice ka kn kc] 76 (0, 0))
  row : RowsOwn PrcE 52 (Up W.heap.size) W.heap.size wr (.slice pa k pc) (((normL lib).take k).map prcOf)
  keep : Keeps W wr (fun b => b = G)
  zero : k ≤ i → mk = 0
  some_ : i < k → vn = (paramsN (at' (normL lib) i)).length ∧ mk = 57 ∧ mn = 0 ∧ ms = ⟨#[]⟩ ∧ kn = 1 ∧ RowsAt DclE (fun b => Up W.heap.size b ∧ (Value.slice pa k pc).ownBlock ≠ some b) wr (.slice va vn vc) (paramsN (at' (normL lib) i)) ∧ NdAt (fun b => Up W.heap.size b ∧ (Value.slice pa k pc).ownBlock ≠ some b) wr (.agg #[.int .u8 57, .int .i64 0, .string ⟨#[]⟩, .slice ka 1 kc]) (mainN (at' (normL lib) i))
  lim : ∀ j, j < k → LimOk (at' (normL lib) j)
def PgSt (lib : List Fn) (i : Nat) (W : World) (G k : Nat) (wr : World) : Prop := ∃ va vn vc pa pc mk mn ms ka kn kc, PgAt lib i W G k va vn vc pa pc mk mn ms ka kn kc wr

/-- one more procedure: behind the append and the store -/
theorem PgAt.push {lib : List Fn} {i : Nat} {W : World} {G k : Nat} {va : Option Addr} {vn vc : Nat} {pa : Option Addr} {pc : Nat} {mk mn : Int} {ms : ByteArray} {ka : Option Addr} {kn kc : Nat} {wr w4 w5 : World} {a' : Option Addr} {c' : Nat} (h : PgAt lib i W G k va vn vc pa pc mk mn ms ka kn kc wr) (hG : G < W.heap.size) (hk : k < lib.length)
    (hb : Below wr.heap.size wr w4) (hg : w4.grownBy w5 (Value.slice pa k pc).ownBlock) (hn : NewOr w4 (.slice pa k pc) (.slice a' (k + 1) c')) (ho : RowsOwn PrcE 52 (Up W.heap.size) W.heap.size w5 (.slice a' (k + 1) c') (((normL lib).take k).map prcOf ++ [prcOf (at' (normL lib) k)])) (hl : LimOk (at' (normL lib) k)) :
    (w5.setCell ⟨G, 1, none⟩ (.slice a' (k + 1) c')).heap[G]? = some (.cells #[.slice va vn vc, .slice a' (k + 1) c', .int .u8 mk, .int .i64 mn, .string ms, .slice ka kn kc] 76 (0, 0)) ∧
    RowsOwn PrcE 52 (Up W.heap.size) W.heap.size (w5.setCell ⟨G, 1, none⟩ (.slice a' (k + 1) c')) (.slice a' (k + 1) c') (((normL lib).take (k + 1)).map prcOf) ∧ Keeps W (w5.setCell ⟨G, 1, none⟩ (.slice a' (k + 1) c')) (fun b => b = G) ∧ (∀ j, j < k + 1 → LimOk (at' (normL lib) j)) ∧
    (k ≠ i → PgAt lib i W G (k + 1) va vn vc a' c' mk mn ms ka kn kc (w5.setCell ⟨G, 1, none⟩ (.slice a' (k + 1) c'))) := by
  have hgw : G < wr.heap.size := Nat.lt_of_lt_of_le hG h.keep.size
  have hown : ∀ b, (Value.slice pa k pc).ownBlock = some b → W.heap.size ≤ b ∧ b < wr.heap.size := fun b e => h.row.lt e
  have hne : (Value.slice pa k pc).ownBlock ≠ some G := fun e => by have := (hown G e).1; omega
  have e4 : w4.heap[G]? = some (.cells #[.slice va vn vc, .slice pa k pc, .int .u8 mk, .int .i64 mn, .string ms, .slice ka kn kc] 76 (0, 0)) := blk_below hb h.box
  have e5 : w5.heap[G]? = _ := (hg.block G (Nat.lt_of_lt_of_le hgw hb.size) (fun e => hne e.symm)).trans e4
  have e6 := heap_setCell_same w5 G 1 _ _ (.slice a' (k + 1) c') e5
  simp only [List.setIfInBounds_toArray, List.set_cons_zero, List.set_cons_succ] at e6
  have hk5 := keeps_set w5 G 1 (.slice a' (k + 1) c')
  have k4 : Keeps W w4 (fun b => b = G) := h.keep.same (Keeps.of_below _ hb)
  have k5 : Keeps W w5 (fun b => b = G) := k4.trans (S' := fun b => (Value.slice pa k pc).ownBlock = some b) (Keeps.of_grown hg (fun b e => .inl e)) (fun b e => .inr (hown b e).1)
  have k6 := k5.same hk5
  have htk : ((normL lib).take (k + 1)).map prcOf = ((normL lib).take k).map prcOf ++ [prcOf (at' (normL lib) k)] := by
    have hk2 : k < (normL lib).length := by simpa [normL] using hk
    rw [List.take_add_one, List.getElem?_eq_getElem hk2, at_eq hk2, List.map_append]; rfl
  have ho6 : RowsOwn PrcE 52 (Up W.heap.size) W.heap.size (w5.setCell ⟨G, 1, none⟩ (.slice a' (k + 1) c')) (.slice a' (k + 1) c') (((normL lib).take (k + 1)).map prcOf) := by
    rw [htk]
    exact ho.keeps hk5 (fun b e e2 => by have := (ho.lt e).1; omega) (fun b _ hd e => by have : W.heap.size ≤ b := hd; omega)
  have hlim : ∀ j, j < k + 1 → LimOk (at' (normL lib) j) := fun j hj => by
    by_cases e : j = k
    · rw [e]; exact hl
    · exact h.lim j (by omega)
  refine ⟨e6, ho6, k6, hlim, fun hki => ⟨e6, ho6, k6, fun h1 => h.zero (by omega), fun h1 => ?_, hlim⟩⟩
  obtain ⟨q1, q2, q3, q4, q5, q6, q7⟩ := h.some_ (by omega)
  have hs1 := data_grow (D := Up W.heap.size) hg hn
  have hs2 : Stays (fun b => Up W.heap.size b ∧ (Value.slice a' (k + 1) c').ownBlock ≠ some b) (fun b => Up W.heap.size b ∧ (Value.slice a' (k + 1) c').ownBlock ≠ some b) w5 (w5.setCell ⟨G, 1, none⟩ (.slice a' (k + 1) c')) := hk5.stays (fun b hd _ e => by have : W.heap.size ≤ b := hd.1; omega)
  exact ⟨q1, q2, q3, q4, q5, ((q6.stays (Stays.of_below hb)).stays hs1).stays hs2, ((q7.stays (Stays.of_below hb)).stays hs1).stays hs2⟩
/-- the function's own procedure: the variables and the main block -/
theorem PgAt.close {lib : List Fn} {i : Nat} {W X V : World} {G : Nat} {pa : Option Addr} {pc : Nat} {xa : Option Addr} {xn xc : Nat} {ka : Option Addr} {kc : Nat} (hG : G < W.heap.size) (hrow : RowsOwn PrcE 52 (Up W.heap.size) W.heap.size X (.slice pa (i + 1) pc) (((normL lib).take (i + 1)).map prcOf)) (hkeep : Keeps W X (fun b => b = G)) (hlim : ∀ j, j < i + 1 → LimOk (at' (normL lib) j))
    (hK : Keeps X V (fun b => b = G)) (hbox : V.heap[G]? = some (.cells #[.slice xa xn xc, .slice pa (i + 1) pc, .int .u8 57, .int .i64 0, .string ⟨#[]⟩, .slice ka 1 kc] 76 (0, 0))) (hxn : xn = (paramsN (at' (normL lib) i)).length) (hv : RowsAt DclE (Up X.heap.size) V (.slice xa xn xc) (paramsN (at' (normL lib) i)))
    (hm : NdAt (Up X.heap.size) V (.agg #[.int .u8 57, .int .i64 0, .string ⟨#[]⟩, .slice ka 1 kc]) (mainN (at' (normL lib) i))) : PgSt lib i W G (i + 1) V := by
  have hX := hkeep.size
  have hst : ∀ b, Up X.heap.size b → Up W.heap.size b ∧ (Value.slice pa (i + 1) pc).ownBlock ≠ some b := fun b hb => by
    have hb : X.heap.size ≤ b := hb
    exact ⟨by show W.heap.size ≤ b; omega, fun e => by have := (hrow.lt e).2; omega⟩
  exact ⟨xa, xn, xc, pa, pc, 57, 0, ⟨#[]⟩, ka, 1, kc, hbox, hrow.keeps hK (fun b e e2 => by have := (hrow.lt e).1; omega) (fun b _ hd e => by have : W.heap.size ≤ b := hd; omega), hkeep.same hK, fun h => by omega,
    fun _ => ⟨hxn, rfl, rfl, rfl, rfl, hv.stays ⟨Nat.le_refl _, fun b _ h => ⟨rfl, hst b h⟩⟩, hm.stays ⟨Nat.le_refl _, fun b _ h => ⟨rfl, hst b h⟩⟩⟩, hlim⟩
theorem set6_main {w : World} {b e : Nat} {v0 v1 v2 v3 v4 v5 : Value} (h : w.heap[b]? = some (.cells #[v0, v1, v2, v3, v4, v5] e (0, 0))) (x2 x3 x4 x5 : Value) :
    ((((w.setCell ⟨b, 2, none⟩ x2).setCell ⟨b, 3, none⟩ x3).setCell ⟨b, 4, none⟩ x4).setCell ⟨b, 5, none⟩ x5).heap[b]? = some (.cells #[v0, v1, x2, x3, x4, x5] e (0, 0)) := by
  have h3 := heap_setCell_same _ b 5 _ _ x5 (heap_setCell_same _ b 4 _ _ x4 (heap_setCell_same _ b 3 _ _ x3 (heap_setCell_same w b 2 _ _ x2 h)))
  simpa only [List.setIfInBounds_toArray, List.set_cons_zero, List.set_cons_succ] using h3
theorem keeps_main (w : World) (b : Nat) (x2 x3 x4 x5 : Value) : Keeps w ((((w.setCell ⟨b, 2, none⟩ x2).setCell ⟨b, 3, none⟩ x3).setCell ⟨b, 4, none⟩ x4).setCell ⟨b, 5, none⟩ x5) (fun k => k = b) :=
  (((keeps_set w b 2 x2).same (keeps_set _ b 3 x3)).same (keeps_set _ b 4 x4)).same (keeps_set _ b 5 x5)
/-- the call behind j arguments -/
structure CnAt (g : AFn) (Z : World) (N j : Nat) (va : Option Addr) (vc : Nat) (wr : World) : Prop where
  box : wr.heap[N]? = some (.cells #[.int .u8 50, .int .i64 0, .string g.name, .slice va j vc] 35 (0, 0))
  row : RowsOwn NdE 35 (Up Z.heap.size) Z.heap.size wr (.slice va j vc) (((paramsN g).take j).map (fun d => vN d.name))
  keep : Keeps Z wr (fun b => b = N)
theorem CnAt.push {g : AFn} {Z : World} {N j : Nat} {va : Option Addr} {vc : Nat} {wr w4 w5 : World} {a' : Option Addr} {c' : Nat} (h : CnAt g Z N j va vc wr) (hN : N < Z.heap.size) (hj : j < (paramsN g).length) (hb : Below wr.heap.size wr w4) (hg : w4.grownBy w5 (Value.slice va j vc).ownBlock)
    (ho : RowsOwn NdE 35 (Up Z.heap.size) Z.heap.size w5 (.slice a' (j + 1) c') (((paramsN g).take j).map (fun d => vN d.name) ++ [vN (at' (paramsN g) j).name])) : CnAt g Z N (j + 1) a' c' (w5.setCell ⟨N, 3, none⟩ (.slice a' (j + 1) c')) := by
  have hNw : N < wr.heap.size := Nat.lt_of_lt_of_le hN h.keep.size
  have hown : ∀ b, (Value.slice va j vc).ownBlock = some b → Z.heap.size ≤ b ∧ b < wr.heap.size := fun b e => h.row.lt e
  have e5 := (hg.block N (Nat.lt_of_lt_of_le hNw hb.size) (fun e => by have := (hown N e.symm).1; omega)).trans (blk_below hb h.box)
  have e6 := heap_setCell_same w5 N 3 _ _ (.slice a' (j + 1) c') e5
  simp only [List.setIfInBounds_toArray, List.set_cons_zero, List.set_cons_succ] at e6
  have hk5 := keeps_set w5 N 3 (.slice a' (j + 1) c')
  have k5 : Keeps Z w5 (fun b => b = N) := (h.keep.same (Keeps.of_below _ hb)).trans (S' := fun b => (Value.slice va j vc).ownBlock = some b) (Keeps.of_grown hg (fun b e => .inl e)) (fun b e => .inr (hown b e).1)
  have htk : ((paramsN g).take (j + 1)).map (fun d => vN d.name) = ((paramsN g).take j).map (fun d => vN d.name) ++ [vN (at' (paramsN g) j).name] := by
    rw [List.take_add_one, List.getElem?_eq_getElem hj, at_eq hj, List.map_append]; rfl
  refine ⟨e6, ?_, k5.same hk5⟩
  rw [htk]
  exact ho.keeps hk5 (fun b e e2 => by have := (ho.lt e).1; omega) (fun b _ hd e => by have : Z.heap.size ≤ b := hd; omega)
/-- the main block of the call -/
theorem CnAt.close {g : AFn} {X Z : World} {N : Nat} {va : Option Addr} {vc : Nat} {wr V : World} (h : CnAt g Z N (paramsN g).length va vc wr) (hXZ : X.heap.size ≤ Z.heap.size) (hn : (paramsN g).length ≤ 1000) (hs : g.name.size ≤ maxLen) {S : Nat → Prop} (hK : Keeps wr V S) (hS : ∀ b, S b → b < X.heap.size) (hw : V.heap[wr.heap.size]? = some (.cells #[.int .u8 50, .int .i64 0, .string g.name, .slice va (paramsN g).length vc] 35 (0, 0))) :
    NdAt (Up X.heap.size) V (.agg #[.int .u8 57, .int .i64 0, .string ⟨#[]⟩, .slice (some ⟨wr.heap.size, 0, none⟩) 1 1]) (mainN g) := by
  have hz := h.keep.size
  have hrow := h.row
  rw [List.take_length] at hrow
  have hl : ((paramsN g).map (fun d => vN d.name)).length = (paramsN g).length := by simp
  have h1 : KidsAt (Up X.heap.size) wr (.slice va (paramsN g).length vc) ((paramsN g).map (fun d => vN d.name)) := kids_rows.2 (hrow.shut (fun b hb => Nat.le_trans hXZ hb) (fun b e => Nat.le_trans hXZ (hrow.lt e).1) (by rw [hl]; unfold maxLen; omega))
  have h2 : KidsAt (Up X.heap.size) V (.slice va (paramsN g).length vc) ((paramsN g).map (fun d => vN d.name)) := h1.stays (hK.stays (fun b hb _ e => by have := hS b e; have : X.heap.size ≤ b := hb; omega))
  have h3 : NdAt (Up X.heap.size) V (.agg #[.int .u8 50, .int .i64 0, .string g.name, .slice va (paramsN g).length vc]) (callN g.name ((paramsN g).map Dcl.name)) := by
    have := nd_node (k := 50) (s := g.name) h2 (by omega) hs
    rw [callN, List.map_map]; exact this
  exact nd_node (k := 57) (s := ByteArray.empty) (kids_1 hw (by show X.heap.size ≤ wr.heap.size; omega) h3) (by omega) (Nat.zero_le _)
/-- what program leaves -/
def PgPost (lib : List Fn) (i : Nat) (w : World) (e : Ending) (w' : World) : Prop := Below w.heap.size w w' ∧ ∃ (va : Option Addr) (vn vc : Nat) (pa : Option Addr) (pn pc : Nat) (mk mn : Int) (ms : ByteArray) (ka : Option Addr) (kn kc : Nat) (b : Bool), e = .returned (.tuple #[.agg #[.slice va vn vc, .slice pa pn pc, .int .u8 mk, .int .i64 mn, .string ms, .slice ka kn kc], .bool b]) ∧
  (b = true → (∀ j, j < lib.length → LimOk (at' (normL lib) j)) ∧ vn = (progN lib i).vars.length ∧ pn = (progN lib i).procs.length ∧ mk = (progN lib i).main.kind ∧ mn = (progN lib i).main.num ∧ ms = (progN lib i).main.name ∧ kn = (progN lib i).main.kids.length ∧ PrgAt Any w' va vc pa pc ka kc (progN lib i))
/-- the program's box, under a name -/
def KeptG (G : Nat) (x0 x1 x2 x3 x4 x5 : Value) (w1 : World) : Prop := w1.heap[G]? = some (.cells #[x0, x1, x2, x3, x4, x5] 76 (0, 0))
theorem keptG_cells {G : Nat} {x0 x1 x2 x3 x4 x5 : Value} {w : World} (h : KeptG G x0 x1 x2 x3 x4 x5 w) : w.cell? ⟨G, 0, none⟩ = some x0 ∧ w.cell? ⟨G, 1, none⟩ = some x1 ∧ w.cell? ⟨G, 2, none⟩ = some x2 ∧ w.cell? ⟨G, 3, none⟩ = some x3 ∧ w.cell? ⟨G, 4, none⟩ = some x4 ∧ w.cell? ⟨G, 5, none⟩ = some x5 := cells6' h
theorem keptG_drew {G : Nat} {x0 x1 x2 x3 x4 x5 : Value} {w : World} (h : KeptG G x0 x1 x2 x3 x4 x5 w) : KeptG G x0 x1 x2 x3 x4 x5 w.drew := h
theorem pg_fin {lib : List Fn} {i : Nat} {w W V : World} {va : Option Addr} {vn vc : Nat} {a7 : Option Addr} {c7 : Nat} {ka : Option Addr} {kc : Nat} (hz : W.heap.size = w.heap.size + 2) (hbV : Below w.heap.size w V) (hrow : RowsAt PrcE (Up W.heap.size) V (.slice a7 (lib.length + 2) c7) (prcsN lib)) (hvn : vn = (paramsN (at' (normL lib) i)).length)
    (hvv : RowsAt DclE (Up W.heap.size) V (.slice va vn vc) (paramsN (at' (normL lib) i))) (hmm : NdAt (Up W.heap.size) V (.agg #[.int .u8 57, .int .i64 0, .string ⟨#[]⟩, .slice ka 1 kc]) (mainN (at' (normL lib) i))) (hlim : ∀ j, j < lib.length → LimOk (at' (normL lib) j)) :
    PgPost lib i w (.returned (.tuple #[.agg #[.slice va vn vc, .slice a7 (lib.length + 2) c7, .int .u8 57, .int .i64 0, .string ⟨#[]⟩, .slice ka 1 kc], .bool true])) ((((((V.setCell ⟨w.heap.size, 0, none⟩ (.slice va vn vc)).setCell ⟨w.heap.size, 1, none⟩ (.slice a7 (lib.length + 2) c7)).setCell ⟨w.heap.size, 2, none⟩ (.int .u8 57)).setCell ⟨w.heap.size, 3, none⟩ (.int .i64 0)).setCell ⟨w.heap.size, 4, none⟩ (.string ⟨#[]⟩)).setCell ⟨w.heap.size, 5, none⟩ (.slice ka 1 kc)) := by
  have hk6 := keeps_set6 V w.heap.size (.slice va vn vc) (.slice a7 (lib.length + 2) c7) (.int .u8 57) (.int .i64 0) (.string ⟨#[]⟩) (.slice ka 1 kc)
  have hb6 := below_sets6 (x0 := .slice va vn vc) (x1 := .slice a7 (lib.length + 2) c7) (x2 := .int .u8 57) (x3 := .int .i64 0) (x4 := .string ⟨#[]⟩) (x5 := .slice ka 1 kc) hbV (Nat.le_refl w.heap.size)
  generalize ((((((V.setCell ⟨w.heap.size, 0, none⟩ (.slice va vn vc)).setCell ⟨w.heap.size, 1, none⟩ (.slice a7 (lib.length + 2) c7)).setCell ⟨w.heap.size, 2, none⟩ (.int .u8 57)).setCell ⟨w.heap.size, 3, none⟩ (.int .i64 0)).setCell ⟨w.heap.size, 4, none⟩ (.string ⟨#[]⟩)).setCell ⟨w.heap.size, 5, none⟩ (.slice ka 1 kc)) = V2 at *
  have hs6 : Stays (Up W.heap.size) Any V V2 := ⟨hk6.size, fun b hb hd => ⟨hk6.block b hb (fun e => by have : W.heap.size ≤ b := hd; omega), trivial⟩⟩
  have hpl : lib.length + 2 = (progN lib i).procs.length := by simp [progN, prcsN, normL, libPrcs]
  refine ⟨hb6, va, vn, vc, a7, lib.length + 2, c7, 57, 0, ⟨#[]⟩, ka, 1, kc, true, rfl, fun _ => ⟨hlim, hvn, hpl, rfl, rfl, rfl, rfl, ⟨?_, ?_, hmm.stays hs6⟩⟩⟩
  · have h := hvv.stays hs6
    rw [hvn] at h
    exact h
  · have h := hrow.stays hs6
    rw [hpl] at h
    exact h
theorem pg_drew {lib : List Fn} {i : Nat} {w V : World} {e : Ending} (h : PgPost lib i w e V) : PgPost lib i w e V.drew := by
  obtain ⟨h1, va, vn, vc, pa, pn, pc, mk, mn, ms, ka, kn, kc, b, h2, h3⟩ := h
  exact ⟨bel_drew h1, va, vn, vc, pa, pn, pc, mk, mn, ms, ka, kn, kc, b, h2, fun hb => by
    obtain ⟨q1, q2, q3, q4, q5, q6, q7, q8⟩ := h3 hb
    exact ⟨q1, q2, q3, q4, q5, q6, q7, q8.stays (w' := V.drew) (Stays.of_below (bel_drew (Below.refl _ _)))⟩⟩
end Go.Proofs.YtkemieppamdniaaGreatDoor
namespace Go.Proofs.YtkemieppamdniaaGreatDoor
set_option linter.unusedVariables false
set_option linter.unusedSimpArgs false
open Go.RowKit

/-- what the walk knows of the functions -/
def FnsOk (lib : List Fn) : Prop := ∀ k, k < lib.length → GoodBs lib (at' (normL lib) k).body ∧ sizeBs (at' (normL lib) k).body ≤ 10000 ∧ (at' (normL lib) k).temps.length ≤ 4000 ∧ (at' (normL lib) k).params.length ≤ 8

set_option maxRecDepth 100000 in
set_option maxHeartbeats 12800000 in
theorem program_C (lib : List Fn) (hv : (validE lib).2 = 0) (h8 : lib.length ≤ 8) (hgd : FnsOk lib) (i : Nat) (hi : i < lib.length) (la : Option Addr) (lc : Nat) (w : World) (hl : AFnsAt Any w (.slice la lib.length lc) (normL lib)) :
    Calls Tryz.prog 30 #[.slice la lib.length lc, .string (at' (normL lib) i).name, .bool false] w (PgPost lib i w) := by
  have hnl : (normL lib).length = lib.length := by simp [normL]
  have HNL := Lib.hid hnl
  have hA : Below w.heap.size w ((w.alloc (.cells #[.slice none 0 0, .slice none 0 0, .int .u8 0, .int .i64 0, .string ⟨#[]⟩, .slice none 0 0] 76)).alloc (.cells #[.slice none 0 0, .slice none 0 0, .int .u8 0, .int .i64 0, .string ⟨#[]⟩, .slice none 0 0] 76)) := bel_alloc (bel_alloc (Below.refl _ _))
  have hO := at_old w (.cells #[.slice none 0 0, .slice none 0 0, .int .u8 0, .int .i64 0, .string ⟨#[]⟩, .slice none 0 0] 76) (.cells #[.slice none 0 0, .slice none 0 0, .int .u8 0, .int .i64 0, .string ⟨#[]⟩, .slice none 0 0] 76)
  have hN := at_new w (.cells #[.slice none 0 0, .slice none 0 0, .int .u8 0, .int .i64 0, .string ⟨#[]⟩, .slice none 0 0] 76) (.cells #[.slice none 0 0, .slice none 0 0, .int .u8 0, .int .i64 0, .string ⟨#[]⟩, .slice none 0 0] 76)
  have hz : ((w.alloc (.cells #[.slice none 0 0, .slice none 0 0, .int .u8 0, .int .i64 0, .string ⟨#[]⟩, .slice none 0 0] 76)).alloc (.cells #[.slice none 0 0, .slice none 0 0, .int .u8 0, .int .i64 0, .string ⟨#[]⟩, .slice none 0 0] 76)).heap.size = w.heap.size + 2 := by simp
  have HL := Lib.hid hl
  have HA := Lib.hid hA
  have HGD := Lib.hid hgd
  have HAP : Hid (∀ a b, a < lib.length → b < lib.length → a ≠ b → (at' (normL lib) a).name ≠ (at' (normL lib) b).name) := Lib.hid (fun a b ha hb hab => by
    rw [normL_at ha, normL_at hb]
    show (at' lib a).name ≠ (at' lib b).name
    rcases Nat.lt_or_gt_of_ne hab with h | h
    · exact names_apart hv a b h hb
    · exact (names_apart hv b a h ha).symm)
  have HII := Lib.hid hi
  clear hl hA hgd hv hnl hi
  go_enter Tryz.func30, Tryz.ntmps30
  go_upto_region 2 with fail
  generalize ((w.alloc (.cells #[.slice none 0 0, .slice none 0 0, .int .u8 0, .int .i64 0, .string ⟨#[]⟩, .slice none 0 0] 76)).alloc (.cells #[.slice none 0 0, .slice none 0 0, .int .u8 0, .int .i64 0, .string ⟨#[]⟩, .slice none 0 0] 76)) = W at *
  have HW : Hid (∀ wr, Keeps W wr (fun b => b = w.heap.size + 1) → wr.heap[w.heap.size]? = some (.cells #[.slice none 0 0, .slice none 0 0, .int .u8 0, .int .i64 0, .string ⟨#[]⟩, .slice none 0 0] 76) ∧ Below w.heap.size w wr) := Lib.hid (fun wr h => ⟨(h.block _ (by omega) (by omega)).trans hO, HA.out.trans (h.below (B := w.heap.size) (fun k e => by omega) HA.out.size)⟩)
  have hst : PgSt lib i W (w.heap.size + 1) 0 W := ⟨none, 0, 0, none, 0, 0, 0, ⟨#[]⟩, none, 0, 0, hN, by rw [List.take_zero]; exact RowsOwn.nil _ _ _ _ _, Keeps.refl _ _, fun _ => rfl, fun h => by omega, fun j hj => by omega⟩
  have HST := Lib.hid hst
  clear hO hN hst
  go_wp2
  go_loopw [18] (fun x wr => ∃ k : Nat, k ≤ lib.length ∧ x = .int .i64 k ∧ PgSt lib i W (w.heap.size + 1) k wr) (fun x _ => lib.length - (intOf x).toNat)
  case atStart => exact ⟨0, Nat.zero_le _, rfl, HST.out⟩
  case round =>
    obtain ⟨k, hkk, rfl, hst⟩ := hrel
    obtain ⟨va, vn, vc, pa, pc, mk, mn, ms, ka, kn, kc, hst⟩ := hst
    obtain ⟨hR, hbw⟩ := HW.out wr hst.keep
    have hGl : w.heap.size + 1 < wr.heap.size := (Array.getElem?_eq_some_iff.1 hst.box).1
    by_cases hlt : k < lib.length
    · have hlt2 : k < (normL lib).length := by rw [HNL.out]; exact hlt
      obtain ⟨b, off, cap, qa, qc, ta, tc, ba, bc, he, hb, hcap, d0, d1, d2, d3, d4, d5, hps, htm, hbd, hsn, hsr⟩ := afn_at HL.out hlt2
      rw [HNL.out] at he
      simp only [Value.slice.injEq] at he
      obtain ⟨rfl, -, rfl⟩ := he
      have c0 := (hbw.cell (p := ⟨b, _, none⟩) hb).trans d0
      have c1 := (hbw.cell (p := ⟨b, _, none⟩) hb).trans d1
      have c2 := (hbw.cell (p := ⟨b, _, none⟩) hb).trans d2
      have c3 := (hbw.cell (p := ⟨b, _, none⟩) hb).trans d3
      have c4 := (hbw.cell (p := ⟨b, _, none⟩) hb).trans d4
      have c5 := (hbw.cell (p := ⟨b, _, none⟩) hb).trans d5
      have HND := Lib.hid (HAP.out k i hlt HII.out)
      have hgk := HGD.out k hlt
      generalize hg : at' (normL lib) k = g at *
      have i0 : (0 : Int) ≤ (k : Int) := by omega
      have i1 : (k : Int) < (lib.length : Int) := by omega
      have hA2 : Below wr.heap.size wr (wr.alloc (.cells #[.string g.name, .slice qa g.params.length qc, .bool g.list, .slice ta g.temps.length tc, .slice ba g.body.length bc, .string g.result] 31)) := bel_alloc (Below.refl _ _)
      have hX2 := at_new0 wr (.cells #[.string g.name, .slice qa g.params.length qc, .bool g.list, .slice ta g.temps.length tc, .slice ba g.body.length bc, .string g.result] 31)
      have hwr2 := hbw.trans (hA2.mono hbw.size)
      have HPC := Lib.hid (proc_C g lib qa ta ba qc tc bc _ (hps.stays (Stays.of_below hwr2)) (htm.stays (Stays.of_below hwr2)) (hbd.stays (Stays.of_below hwr2)) hsr hgk.1 hgk.2.1 hgk.2.2.1 hgk.2.2.2 (proc_size g hgk.1 hgk.2.1 hgk.2.2.1))
      have HST2 := Lib.hid hst
      have HX2 := Lib.hid hX2
      have HA2 := Lib.hid hA2
      have HBW := Lib.hid hbw
      have HR := Lib.hid hR
      have HPS := Lib.hid hps
      have HPL : Hid (g.params.length ≤ 8) := Lib.hid hgk.2.2.2
      clear hst hR hbw hps htm hbd hA2 hX2 hgk hwr2 d0 d1 d2 d3 d4 d5
      go_wp2_with fail
      refine HPC.out.mono ?_
      rintro e w3 hp3
      obtain ⟨pn, xa, xl, xc, bk, bn, bs, ya, yn, yc, er, rfl, hb3, hcase⟩ := pr_cases hp3
      clear hp3 c0 c1 c2 c3 c4 c5
      have HB3 := Lib.hid (HA2.out.trans (hb3.mono HA2.out.size))
      have hA3 : Below w3.heap.size w3 (w3.alloc (.cells #[.string pn, .slice xa xl xc, .int .u8 bk, .int .i64 bn, .string bs, .slice ya yn yc] 52)) := bel_alloc (Below.refl _ _)
      have hx3 := at_new0 w3 (.cells #[.string pn, .slice xa xl xc, .int .u8 bk, .int .i64 bn, .string bs, .slice ya yn yc] 52)
      have HB4 := Lib.hid (HB3.out.trans (hA3.mono HB3.out.size))
      have HX3 := Lib.hid hx3
      have HX4 := Lib.hid (blk_below hA3 (blk_below hb3 HX2.out))
      have hG4 := blk_below HB4.out HST2.out.box
      have HG4 := Lib.hid hG4
      have HR4 := Lib.hid (blk_below HB4.out HR.out)
      have hw3 : wr.heap.size < w3.heap.size := by have := hb3.size; simp at this; omega
      have HB34 := Lib.hid hA3
      clear hb3 hA3
      rcases hcase with her | ⟨rfl, hlim, rfl, rfl, rfl, rfl, rfl, hrx, hnx⟩
      · have e1 : (er == 0) = false := by simpa using her
        obtain ⟨y0, y1, y2, y3, y4, y5⟩ := cells6' hG4
        obtain ⟨z0, z1, z2, z3, z4, z5⟩ := cells6' HR4.out
        have f := unfrozen HR4.out
        clear hx3 hG4 her
        go_wp2
        (try simp only [Exit.inBlock, Exit.then])
        refine bodyPost_ret (results_cell_row2 (P := Tryz.prog) rfl _ _ w.heap.size _ _ _ _ (.bool false) rfl (set6 HR4.out _ _ _ _ _ _) rfl Tryz.underlying76 rfl (by kernel_rfl)) rfl ?_
        exact ⟨below_sets6 (HBW.out.trans (HB4.out.mono HBW.out.size)) (Nat.le_refl _), _, _, _, _, _, _, _, _, _, _, _, _, _, rfl, fun h => by cases h⟩
      · obtain ⟨y0, y1, y2, y3, y4, y5⟩ := cells6' hG4
        obtain ⟨x0, x1, x2, x3, x4, x5⟩ := cells6' hx3
        have hbb : Below w3.heap.size w3 ((w3.alloc (.cells #[.string g.name, .slice xa (paramsN g).length xc, .int .u8 57, .int .i64 0, .string ⟨#[]⟩, .slice ya yn yc] 52)).alloc (.cells #[.string g.name, .slice xa (paramsN g).length xc, .int .u8 57, .int .i64 0, .string ⟨#[]⟩, .slice ya yn yc] 52)) := bel_alloc (bel_alloc (Below.refl _ _))
        have hup : w3.heap.size ≥ (wr.alloc (.cells #[.string g.name, .slice qa g.params.length qc, .bool g.list, .slice ta g.temps.length tc, .slice ba g.body.length bc, .string g.result] 31)).heap.size := by simp; omega
        have hrow : RowsAt PrcE (Up (wr.alloc (.cells #[.string g.name, .slice qa g.params.length qc, .bool g.list, .slice ta g.temps.length tc, .slice ba g.body.length bc, .string g.result] 31)).heap.size) ((w3.alloc (.cells #[.string g.name, .slice xa (paramsN g).length xc, .int .u8 57, .int .i64 0, .string ⟨#[]⟩, .slice ya yn yc] 52)).alloc (.cells #[.string g.name, .slice xa (paramsN g).length xc, .int .u8 57, .int .i64 0, .string ⟨#[]⟩, .slice ya yn yc] 52)) (.slice (some ⟨w3.heap.size + 1, 0, none⟩) 1 1) [prcOf g] := by
          obtain ⟨e1, e2, e3, e4, e5⟩ := nd_cells (hnx.stays (Stays.of_below hbb))
          exact rows_1 (E := PrcE) (x := prcOf g) (at_new w3 (.cells #[.string g.name, .slice xa (paramsN g).length xc, .int .u8 57, .int .i64 0, .string ⟨#[]⟩, .slice ya yn yc] 52) (.cells #[.string g.name, .slice xa (paramsN g).length xc, .int .u8 57, .int .i64 0, .string ⟨#[]⟩, .slice ya yn yc] 52)) (by show _ ≤ w3.heap.size + 1; omega) rfl ⟨rfl, hrx.stays (Stays.of_below hbb), ⟨e1, e2, e3, e4, e5⟩, hsn⟩
        have HROW := Lib.hid hrow
        have HBB := Lib.hid (HB3.out.trans (hbb.mono HB3.out.size))
        have HLK : Hid ((((normL lib).take k).map prcOf).length + [prcOf g].length = k + 1) := Lib.hid (by have := HNL.out; simp; omega)
        have HSZ : Hid (W.heap.size ≤ wr.heap.size ∧ W.heap.size ≤ ((w3.alloc (.cells #[.string g.name, .slice xa (paramsN g).length xc, .int .u8 57, .int .i64 0, .string ⟨#[]⟩, .slice ya yn yc] 52)).alloc (.cells #[.string g.name, .slice xa (paramsN g).length xc, .int .u8 57, .int .i64 0, .string ⟨#[]⟩, .slice ya yn yc] 52)).heap.size) := Lib.hid ⟨HST2.out.keep.size, by have := HST2.out.keep.size; simp; omega⟩
        have HLM := Lib.hid hlim
        have HDD : Hid (∀ b, b < ((w3.alloc (.cells #[.string g.name, .slice xa (paramsN g).length xc, .int .u8 57, .int .i64 0, .string ⟨#[]⟩, .slice ya yn yc] 52)).alloc (.cells #[.string g.name, .slice xa (paramsN g).length xc, .int .u8 57, .int .i64 0, .string ⟨#[]⟩, .slice ya yn yc] 52)).heap.size → Up (wr.alloc (.cells #[.string g.name, .slice qa g.params.length qc, .bool g.list, .slice ta g.temps.length tc, .slice ba g.body.length bc, .string g.result] 31)).heap.size b → Up W.heap.size b ∧ (Value.slice pa k pc).ownBlock ≠ some b) := Lib.hid (fun b _ hb2 => by
          have h1 : wr.heap.size + 1 ≤ b := by have : (wr.alloc (.cells #[.string g.name, .slice qa g.params.length qc, .bool g.list, .slice ta g.temps.length tc, .slice ba g.body.length bc, .string g.result] 31)).heap.size ≤ b := hb2; simpa using this
          exact ⟨by have := HSZ.out.1; show W.heap.size ≤ b; omega, fun e => by have := (HST2.out.row.lt e).2; omega⟩)
        clear hx3 hG4 hrx hnx hrow hbb hup hlim
        go_upto_region 9 with (at_builtin; refine wpl_rows TPrc rfl (by decide) rfl (.tmp 31) (.tmp 33) rfl rfl rfl (HST2.out.row.below HBB.out) HROW.out HDD.out (by rw [HLK.out]; unfold maxLen; omega) (by rw [HLK.out]; omega) HSZ.out.2 ?_; intro a5 c5 w5 h5 hg5 hn5; rw [HLK.out] at h5 hn5 ⊢; have hp5 := HST2.out.push (by have := hz; omega) hlt HBB.out hg5 hn5 (by rw [hg]; exact h5) (by rw [hg]; exact HLM.out); have e5 := (hg5.block (w.heap.size + 1) (by have := HBB.out.size; omega) (fun e => by have := (HST2.out.row.lt e.symm).1; omega)).trans (blk_below HBB.out HST2.out.box); have y1 := cell_blk e5 1 rfl; have f := unfrozen e5; have HP5 := Lib.hid hp5; have x5' := (hg5.block wr.heap.size (by have := HBB.out.size; simp; omega) (fun e => by have := (HST2.out.row.lt e.symm).2; omega)).trans (blk_below (bel_alloc (Below.refl _ _)) HX4.out); have HX5 := Lib.hid x5'; clear h5 hg5 hn5 hp5 e5 x5')
        obtain ⟨p1, p2, p3, p4, p5⟩ := HP5.out
        have x5s := blk_setA (g := w.heap.size + 1) (o := 1) (x := .slice a5 (k + 1) c5) HX5.out (by omega)
        clear HP5 HX5
        generalize (w5.setCell ⟨w.heap.size + 1, 1, none⟩ (.slice a5 (k + 1) c5)) = X at *
        obtain ⟨c0, c1, c2, c3, c4, c5'⟩ := cells6 x5s
        by_cases hki : k = i
        · obtain rfl : k = i := hki
          rw [hg]
          have en : (g.name.toList == g.name.toList) = true := by simp
          have HPA := Lib.hid (params_C g qa ta ba qc tc bc X (HPS.out.stays (Stays.of_below (HW.out X p3).2)) (by have := HPL.out; omega))
          have hGX : w.heap.size + 1 < X.heap.size := (Array.getElem?_eq_some_iff.1 p1).1
          have P1 := Lib.hid p1
          have P2 := Lib.hid p2
          have P3 := Lib.hid p3
          have P4 := Lib.hid p4
          clear p1 p2 p3 p4 p5
          go_upto_region 14 with (go_at_call 18; refine HPA.out.mono ?_; rintro e w7 ⟨ua, uc, rfl, hu, hb7⟩; have hx7 := blk_below hb7 P1.out; have f7 := unfrozen hx7; obtain ⟨y0, y1, y2, y3, y4, y5⟩ := cells6' hx7; have HU7 := Lib.hid (hu.stays (A' := fun b => Up X.heap.size b ∧ b < w7.heap.size) ⟨Nat.le_refl _, fun b hb h => ⟨rfl, h, hb⟩⟩); have HB7 := Lib.hid hb7; have HX7 := Lib.hid hx7; have hg7 := Nat.lt_of_lt_of_le hGX hb7.size; clear hx7 hu hb7)
          have hzs := hsn
          have eY := heap_setCell_same w7 (w.heap.size + 1) 0 _ _ (.slice ua (paramsN g).length uc) HX7.out
          simp only [List.setIfInBounds_toArray, List.set_cons_zero] at eY
          have hYn : (w7.setCell ⟨w.heap.size + 1, 0, none⟩ (.slice ua (paramsN g).length uc)).heap.size = w7.heap.size := by simp
          have hZb : Below (w7.setCell ⟨w.heap.size + 1, 0, none⟩ (.slice ua (paramsN g).length uc)).heap.size (w7.setCell ⟨w.heap.size + 1, 0, none⟩ (.slice ua (paramsN g).length uc)) ((w7.setCell ⟨w.heap.size + 1, 0, none⟩ (.slice ua (paramsN g).length uc)).alloc (.cells #[.int .u8 50, .int .i64 0, .string g.name, .slice none 0 0] 35)) := bel_alloc (Below.refl _ _)
          have hZN := at_new0 (w7.setCell ⟨w.heap.size + 1, 0, none⟩ (.slice ua (paramsN g).length uc)) (.cells #[.int .u8 50, .int .i64 0, .string g.name, .slice none 0 0] 35)
          rw [hYn] at hZN
          have hZG := blk_below hZb eY
          have kZ : Keeps X ((w7.setCell ⟨w.heap.size + 1, 0, none⟩ (.slice ua (paramsN g).length uc)).alloc (.cells #[.int .u8 50, .int .i64 0, .string g.name, .slice none 0 0] 35)) (fun b => b = w.heap.size + 1) := ((Keeps.of_below _ HB7.out).same (keeps_set w7 (w.heap.size + 1) 0 _)).alloc _
          have uZ := (HU7.out.stays ((keeps_set w7 (w.heap.size + 1) 0 (.slice ua (paramsN g).length uc)).stays (fun b hb _ e => by have : X.heap.size ≤ b := hb.1; omega))).stays (Stays.of_below hZb)
          have hNZ : w7.heap.size < ((w7.setCell ⟨w.heap.size + 1, 0, none⟩ (.slice ua (paramsN g).length uc)).alloc (.cells #[.int .u8 50, .int .i64 0, .string g.name, .slice none 0 0] 35)).heap.size := by simp
          have hXN : X.heap.size ≤ w7.heap.size := HB7.out.size
          have hpl9 : (paramsN g).length ≤ 9 := by have := HPL.out; simp [paramsN]; omega
          generalize ((w7.setCell ⟨w.heap.size + 1, 0, none⟩ (.slice ua (paramsN g).length uc)).alloc (.cells #[.int .u8 50, .int .i64 0, .string g.name, .slice none 0 0] 35)) = Z at *
          have HCN : Hid (CnAt g Z w7.heap.size 0 none 0 Z) := Lib.hid ⟨hZN, by rw [List.take_zero]; exact RowsOwn.nil _ _ _ _ _, Keeps.refl _ _⟩
          have KZ := Lib.hid kZ
          have UZ := Lib.hid uZ
          have HZG := Lib.hid hZG
          obtain ⟨y0, y1, y2, y3, y4, y5⟩ := cells6' hZG
          clear hzs eY hYn hZb hZN hZG kZ uZ HU7 HX7 hg7 f7 HB7 HPA
          generalize wr = wr1 at *
          go_wp2
          go_loopw [50] (fun x wr => ∃ (j : Nat) (va : Option Addr) (vc : Nat), j ≤ (paramsN g).length ∧ x = .int .i64 j ∧ CnAt g Z w7.heap.size j va vc wr) (fun x _ => (paramsN g).length - (intOf x).toNat)
          case atStart => exact ⟨0, none, 0, Nat.zero_le _, rfl, HCN.out⟩
          case round =>
            obtain ⟨j, ja, jc, hjj, rfl, hcn⟩ := hrel
            have HC1 := Lib.hid hcn
            clear y0 y1 y2 y3 y4 y5
            have hwz := hcn.keep.size
            by_cases hltj : j < (paramsN g).length
            · have hrow := UZ.out.stays (hcn.keep.stays (fun b hb _ e => by have := hb.2; omega))
              obtain ⟨_, _, _, _, _, _, _, _, _, _, _, _, hnsz⟩ := hrow.at hltj
              obtain ⟨bq, oq, he, hbq, d0, d1, d2⟩ := dcls_at' hrow hltj
              subst he
              have j0 : (0 : Int) ≤ (j : Int) := by omega
              have j1 : (j : Int) < ((paramsN g).length : Int) := by omega
              have hb2 : Below wr.heap.size wr ((wr.alloc (.cells #[.string (at' (paramsN g) j).name, .int .u8 (at' (paramsN g) j).kind, .int .i64 0] 59)).alloc (.cells #[.int .u8 2, .int .i64 0, .string (at' (paramsN g) j).name, .slice none 0 0] 35)) := bel_alloc (bel_alloc (Below.refl _ _))
              obtain ⟨n0, n1, n2, n3⟩ := cells4 (blk_below (bel_alloc (Below.refl _ _)) hcn.box : (wr.alloc (.cells #[.string (at' (paramsN g) j).name, .int .u8 (at' (paramsN g) j).kind, .int .i64 0] 59)).heap[w7.heap.size]? = _)
              have HKR : Hid (RowsAt NdE (fun b => b = wr.heap.size + 1) ((wr.alloc (.cells #[.string (at' (paramsN g) j).name, .int .u8 (at' (paramsN g) j).kind, .int .i64 0] 59)).alloc (.cells #[.int .u8 2, .int .i64 0, .string (at' (paramsN g) j).name, .slice none 0 0] 35)) (.slice (some ⟨wr.heap.size + 1, 0, none⟩) 1 1) [vN (at' (paramsN g) j).name]) := Lib.hid (kids_rows.1 (kids_1 (at_new wr _ _) rfl (nd_v hnsz)))
              have HB2 := Lib.hid hb2
              have HLJ : Hid ((((paramsN g).take j).map (fun d => vN d.name)).length + [vN (at' (paramsN g) j).name].length = j + 1) := Lib.hid (by simp; omega)
              have HDJ : Hid (∀ b, b < ((wr.alloc (.cells #[.string (at' (paramsN g) j).name, .int .u8 (at' (paramsN g) j).kind, .int .i64 0] 59)).alloc (.cells #[.int .u8 2, .int .i64 0, .string (at' (paramsN g) j).name, .slice none 0 0] 35)).heap.size → b = wr.heap.size + 1 → Up Z.heap.size b ∧ (Value.slice ja j jc).ownBlock ≠ some b) := Lib.hid (fun b _ e => ⟨by show Z.heap.size ≤ b; omega, fun e2 => by have := (HC1.out.row.lt e2).2; omega⟩)
              have HBS : Hid (Z.heap.size ≤ ((wr.alloc (.cells #[.string (at' (paramsN g) j).name, .int .u8 (at' (paramsN g) j).kind, .int .i64 0] 59)).alloc (.cells #[.int .u8 2, .int .i64 0, .string (at' (paramsN g) j).name, .slice none 0 0] 35)).heap.size) := Lib.hid (Nat.le_trans hwz hb2.size)
              clear hcn hrow hnsz hb2
              go_wp2_with (at_builtin; refine wpl_rows TNd rfl (by decide) rfl (.tmp 55) (.tmp 59) rfl rfl rfl (HC1.out.row.below HB2.out) HKR.out HDJ.out (by rw [HLJ.out]; unfold maxLen; omega) (by rw [HLJ.out]; omega) HBS.out ?_; intro a5' c5n w9 h9 hg9 hn9; rw [HLJ.out] at h9 hn9 ⊢; have HPJ := Lib.hid (HC1.out.push hNZ hltj HB2.out hg9 h9); have e9 := (hg9.block w7.heap.size (by have := HB2.out.size; omega) (fun e => by have := (HC1.out.row.lt e.symm).1; omega)).trans (blk_below HB2.out HC1.out.box); have f := unfrozen e9; have n3' := cell_blk e9 3 rfl; clear h9 hg9 hn9 e9)
              exact ⟨⟨j + 1, a5', c5n, by omega, by go_num, HPJ.out⟩, by simp [intOf]; omega⟩
            · obtain rfl : j = (paramsN g).length := by omega
              have hlt' : ¬ ((paramsN g).length : Int) < ((paramsN g).length : Int) := by omega
              obtain ⟨n0, n1, n2, n3⟩ := cells4 hcn.box
              have hGN : w.heap.size + 1 < X.heap.size := hGX
              have hGb : wr.heap[w.heap.size + 1]? = some (.cells #[.slice ua (paramsN g).length uc, .slice a5 (k + 1) c5, .int .u8 mk, .int .i64 mn, .string ms, .slice ka kn kc] 76 (0, 0)) := (hcn.keep.block _ (by omega) (by omega)).trans HZG.out
              have hG2 : (wr.alloc (.cells #[.int .u8 50, .int .i64 0, .string g.name, .slice ja (paramsN g).length jc] 35)).heap[w.heap.size + 1]? = _ := blk_below (bel_alloc (Below.refl _ _)) hGb
              have f := unfrozen hG2
              obtain ⟨y0, y1, y2, y3, y4, y5⟩ := cells6' hG2
              have HG2 := Lib.hid hG2
              have hwb : Below wr.heap.size wr (wr.alloc (.cells #[.int .u8 50, .int .i64 0, .string g.name, .slice ja (paramsN g).length jc] 35)) := bel_alloc (Below.refl _ _)
              have hkm := keeps_main (wr.alloc (.cells #[.int .u8 50, .int .i64 0, .string g.name, .slice ja (paramsN g).length jc] 35)) (w.heap.size + 1) (.int .u8 57) (.int .i64 0) (.string ⟨#[]⟩) (.slice (some ⟨wr.heap.size, 0, none⟩) 1 1)
              have hkv : Keeps wr _ (fun b => b = w.heap.size + 1) := (Keeps.of_below _ hwb).same hkm
              have hXw : X.heap.size ≤ wr.heap.size := Nat.le_trans KZ.out.size hwz
              have hfin : PgSt lib k W (w.heap.size + 1) (k + 1) _ := PgAt.close (by have := hz; omega) P2.out P3.out P4.out ((KZ.out.trans (S' := fun b => b = w7.heap.size) HC1.out.keep (fun b e => .inr (by omega))).same hkv) (set6_main HG2.out _ _ _ _) (by rw [hg])
                (by rw [hg]; exact ((UZ.out.stays (HC1.out.keep.stays (fun b hb _ e => by have := hb.2; omega))).stays (hkv.stays (fun b hb _ e => by have : X.heap.size ≤ b := hb.1; omega))).stays ⟨Nat.le_refl _, fun b _ h => ⟨rfl, h.1⟩⟩)
                (by rw [hg]; exact HC1.out.close KZ.out.size (by omega) hsn hkv (fun b e => by omega) ((hkm.block wr.heap.size (by simp) (by omega)).trans (at_new0 wr _)))
              have HFIN := Lib.hid hfin
              clear hcn hGb hG2 hwb hkm hkv hfin
              go_wp2
              go_roundw
              case rel => exact ⟨_, _, _, _, _, _, _, ⟨k + 1, by omega, by go_num, HFIN.out⟩, rfl, rfl, rfl, rfl, rfl, rfl, rfl⟩
              case measure => simp [intOf]; omega
        · have en : (g.name.toList == (at' (normL lib) i).name.toList) = false := beq_eq_false_iff_ne.2 (fun e => HND.out hki (toList_inj e))
          have HP := Lib.hid (p5 hki)
          clear p1 p2 p3 p4 p5 hki
          go_wp2
          exact ⟨⟨k + 1, by omega, by go_num, _, _, _, _, _, _, _, _, _, _, _, HP.out⟩, by simp [intOf]; omega⟩
    · obtain rfl : k = lib.length := by omega
      have hlt' : ¬ (lib.length : Int) < (lib.length : Int) := by omega
      obtain ⟨q1, q2, q3, q4, q5, q6, q7⟩ := hst.some_ HII.out
      subst q2 q3 q4 q5
      have HQ1 := Lib.hid q1
      have HQ6 := Lib.hid q6
      have HQ7 := Lib.hid q7
      clear q1 q6 q7
      have HST2 := Lib.hid hst
      have HBW := Lib.hid hbw
      have HR := Lib.hid hR
      have hsz := hst.keep.size
      have hG := hst.box
      have HX : Hid (∀ w', Below wr.heap.size wr w' → w'.cell? ⟨w.heap.size + 1, 0, none⟩ = some (.slice va vn vc) ∧ w'.cell? ⟨w.heap.size + 1, 1, none⟩ = some (.slice pa lib.length pc) ∧ w'.cell? ⟨w.heap.size + 1, 2, none⟩ = some (.int .u8 57) ∧ w'.cell? ⟨w.heap.size + 1, 3, none⟩ = some (.int .i64 0) ∧ w'.cell? ⟨w.heap.size + 1, 4, none⟩ = some (.string ⟨#[]⟩) ∧ w'.cell? ⟨w.heap.size + 1, 5, none⟩ = some (.slice ka 1 kc)) := Lib.hid (fun w' h => cells6' (blk_below h hG))
      have HG := Lib.hid hG
      have hpr := hst.row
      have HLE : Hid ((((normL lib).take lib.length).map prcOf).length + libPrcs.length = lib.length + 2) := Lib.hid (by have := HNL.out; simp [libPrcs]; omega)
      have HDD : Hid (∀ (w2 : World) b, b < w2.heap.size → Up wr.heap.size b → Up W.heap.size b ∧ (Value.slice pa lib.length pc).ownBlock ≠ some b) := Lib.hid (fun w2 b _ hb => by
        have hb : wr.heap.size ≤ b := hb
        exact ⟨by show W.heap.size ≤ b; omega, fun e => by have := (hpr.lt e).2; omega⟩)
      obtain ⟨y0, y1, y2, y3, y4, y5⟩ := HX.out wr (Below.refl _ _)
      have hGw : w.heap.size + 1 < wr.heap.size := hGl
      clear hst hbw hR hG hpr y0 y2 y3 y4 y5
      go_upto_region 21 with fail
      go_region_law (first
        | (go_simp; go_at_call 74; refine (procs_L _).mono ?_; rintro e w2 ⟨a2, c2, rfl, hr2, hb2⟩; have HB2 : Hid (Below wr.heap.size wr w2) := Lib.hid (by (repeat (with_reducible first | exact Below.refl _ _ | refine bel_drew ?_ | refine bel_alloc ?_ | (apply bel_step; focus assumption)))); have HR2 : Hid (RowsAt PrcE (Up wr.heap.size) w2 (.slice a2 2 c2) libPrcs) := Lib.hid hr2; obtain ⟨y0, y1, y2, y3, y4, y5⟩ := HX.out w2 HB2.out; clear hr2 hb2 y0 y2 y3 y4 y5)
        | (go_at_call 74; refine (procs_L _).mono ?_; rintro e w2 ⟨a2, c2, rfl, hr2, hb2⟩; have HB2 : Hid (Below wr.heap.size wr w2) := Lib.hid (by (repeat (with_reducible first | exact Below.refl _ _ | refine bel_drew ?_ | refine bel_alloc ?_ | (apply bel_step; focus assumption)))); have HR2 : Hid (RowsAt PrcE (Up wr.heap.size) w2 (.slice a2 2 c2) libPrcs) := Lib.hid hr2; obtain ⟨y0, y1, y2, y3, y4, y5⟩ := HX.out w2 HB2.out; clear hr2 hb2 y0 y2 y3 y4 y5)
        | (refine step_rows TPrc rfl (by decide) (by rfl) (.tmp 69) (.tmp 70) (by rfl) (by rfl) (by rfl) (HST2.out.row.below HB2.out) HR2.out (HDD.out w2) (by rw [HLE.out]; unfold maxLen; omega) (by rw [HLE.out]; omega) (by have := HB2.out.size; omega) ?_; intro a7 c7 w7 h7 hg7 hn7; rw [HLE.out] at h7 hn7 ⊢; have e7 := (hg7.block (w.heap.size + 1) (by have := HB2.out.size; omega) (fun e => by have := (HST2.out.row.lt e.symm).1; omega)).trans (blk_below HB2.out HG.out); have f7 := unfrozen e7; have y7 := cell_blk e7 1 rfl; have H7 := Lib.hid h7; have HG7 := Lib.hid hg7; have HN7 := Lib.hid hn7; have HE7 := Lib.hid e7; clear h7 hg7 hn7 e7))
      all_goals
        have hown : ∀ b, (Value.slice pa lib.length pc).ownBlock = some b → W.heap.size ≤ b := fun b e => (HST2.out.row.lt e).1
        have hR7 := (HG7.out.block w.heap.size (by have := HB2.out.size; omega) (fun e => by have := hown _ e.symm; omega)).trans (blk_below HB2.out HR.out)
        have hRV := blk_setA (g := w.heap.size + 1) (o := 1) (x := .slice a7 (lib.length + 2) c7) hR7 (by omega)
        have eV := heap_setCell_same w7 (w.heap.size + 1) 1 _ _ (.slice a7 (lib.length + 2) c7) HE7.out
        simp only [List.setIfInBounds_toArray, List.set_cons_zero, List.set_cons_succ] at eV
        have hkV := keeps_set w7 (w.heap.size + 1) 1 (.slice a7 (lib.length + 2) c7)
        have hrow : RowsAt PrcE (Up W.heap.size) (w7.setCell ⟨w.heap.size + 1, 1, none⟩ (.slice a7 (lib.length + 2) c7)) (.slice a7 (lib.length + 2) c7) (prcsN lib) := by
          have h := H7.out.keeps hkV (fun b e e2 => by have := (H7.out.lt e).1; omega) (fun b _ hd e => by have : W.heap.size ≤ b := hd; omega)
          have et : ((normL lib).take lib.length).map prcOf ++ libPrcs = prcsN lib := by
            have : (normL lib).take lib.length = normL lib := by rw [← HNL.out, List.take_length]
            rw [this]; rfl
          rw [et] at h
          exact h.shut (fun b hb => hb) (fun b e => (h.lt e).1) (by simp [prcsN, normL, libPrcs]; unfold maxLen; omega)
        have hs1 := data_grow (D := Up W.heap.size) HG7.out HN7.out
        have hs2 : Stays (fun b => Up W.heap.size b ∧ (Value.slice a7 (lib.length + 2) c7).ownBlock ≠ some b) (Up W.heap.size) w7 (w7.setCell ⟨w.heap.size + 1, 1, none⟩ (.slice a7 (lib.length + 2) c7)) := ⟨hkV.size, fun b hb hd => ⟨hkV.block b hb (fun e => by have : W.heap.size ≤ b := hd.1; omega), hd.1⟩⟩
        have hvv := ((HQ6.out.stays (Stays.of_below HB2.out)).stays hs1).stays hs2
        have hmm := ((HQ7.out.stays (Stays.of_below HB2.out)).stays hs1).stays hs2
        have hbV : Below w.heap.size w (w7.setCell ⟨w.heap.size + 1, 1, none⟩ (.slice a7 (lib.length + 2) c7)) := ((HBW.out.trans (HB2.out.mono HBW.out.size)).grown HG7.out (by have := HB2.out.size; have := HBW.out.size; omega) (fun b e => by have := hown b e; omega)).setCell (show w.heap.size ≤ w.heap.size + 1 by omega) _
        obtain ⟨y0, y1, y2, y3, y4, y5⟩ := cells6' eV
        obtain ⟨z0, z1, z2, z3, z4, z5⟩ := cells6' hRV
        have fR := unfrozen hRV
        have HRV := Lib.hid hRV
        have HEV := Lib.hid eV
        have HROW := Lib.hid hrow
        have HVV := Lib.hid hvv
        have HMM := Lib.hid hmm
        have HBV := Lib.hid hbV
        clear hown hR7 hRV eV hkV hrow hs1 hs2 hvv hmm hbV y7 f7
        generalize (w7.setCell ⟨w.heap.size + 1, 1, none⟩ (.slice a7 (lib.length + 2) c7)) = V at *
        go_wp2
        have HFIN := Lib.hid (pg_fin hz HBV.out HROW.out HQ1.out HVV.out HMM.out HST2.out.lim)
        have HXV : Hid (∀ w', Below V.heap.size V w' → (w'.cell? ⟨w.heap.size + 1, 0, none⟩ = some (.slice va vn vc) ∧ w'.cell? ⟨w.heap.size + 1, 1, none⟩ = some (.slice a7 (lib.length + 2) c7) ∧ w'.cell? ⟨w.heap.size + 1, 2, none⟩ = some (.int .u8 57) ∧ w'.cell? ⟨w.heap.size + 1, 3, none⟩ = some (.int .i64 0) ∧ w'.cell? ⟨w.heap.size + 1, 4, none⟩ = some (.string ⟨#[]⟩) ∧ w'.cell? ⟨w.heap.size + 1, 5, none⟩ = some (.slice ka 1 kc))) := Lib.hid (fun w' h => cells6' (blk_below h HEV.out))
        have HXH : Hid (∀ w', Below V.heap.size V w' → KeptG (w.heap.size + 1) (.slice va vn vc) (.slice a7 (lib.length + 2) c7) (.int .u8 57) (.int .i64 0) (.string ⟨#[]⟩) (.slice ka 1 kc) ((((((w'.setCell ⟨w.heap.size, 0, none⟩ (.slice va vn vc)).setCell ⟨w.heap.size, 1, none⟩ (.slice a7 (lib.length + 2) c7)).setCell ⟨w.heap.size, 2, none⟩ (.int .u8 57)).setCell ⟨w.heap.size, 3, none⟩ (.int .i64 0)).setCell ⟨w.heap.size, 4, none⟩ (.string ⟨#[]⟩)).setCell ⟨w.heap.size, 5, none⟩ (.slice ka 1 kc))) := Lib.hid (fun w' h => ((keeps_set6 w' w.heap.size _ _ _ _ _ _).block (w.heap.size + 1) (Array.getElem?_eq_some_iff.1 (blk_below h HEV.out)).1 (by omega)).trans (blk_below h HEV.out))
        go_region_held3 (fun w' => (w'.cell? ⟨w.heap.size + 1, 0, none⟩ = some (.slice va vn vc) ∧ w'.cell? ⟨w.heap.size + 1, 1, none⟩ = some (.slice a7 (lib.length + 2) c7) ∧ w'.cell? ⟨w.heap.size + 1, 2, none⟩ = some (.int .u8 57) ∧ w'.cell? ⟨w.heap.size + 1, 3, none⟩ = some (.int .i64 0) ∧ w'.cell? ⟨w.heap.size + 1, 4, none⟩ = some (.string ⟨#[]⟩) ∧ w'.cell? ⟨w.heap.size + 1, 5, none⟩ = some (.slice ka 1 kc)))
          (first | with_reducible exact keptG_cells (keptG_drew (HXH.out V (Below.refl _ _))) | with_reducible exact HXV.out _ (by (repeat (with_reducible first | exact Below.refl _ _ | refine bel_drew ?_ | refine bel_alloc ?_ | (apply bel_step; focus assumption)))))
          (fail)
        all_goals
          go_wp2
          (try simp only [Exit.inBlock, Exit.then])
          have hset := set6 HRV.out (.slice va vn vc) (.slice a7 (lib.length + 2) c7) (.int .u8 57) (.int .i64 0) (.string ⟨#[]⟩) (.slice ka 1 kc)
          have hf := HFIN.out
          generalize ((((((V.setCell ⟨w.heap.size, 0, none⟩ (.slice va vn vc)).setCell ⟨w.heap.size, 1, none⟩ (.slice a7 (lib.length + 2) c7)).setCell ⟨w.heap.size, 2, none⟩ (.int .u8 57)).setCell ⟨w.heap.size, 3, none⟩ (.int .i64 0)).setCell ⟨w.heap.size, 4, none⟩ (.string ⟨#[]⟩)).setCell ⟨w.heap.size, 5, none⟩ (.slice ka 1 kc)) = V2 at hset hf ⊢
          refine bodyPost_ret (results_cell_row2 (P := Tryz.prog) rfl _ V2.drew w.heap.size _ _ _ _ (.bool true) rfl hset rfl Tryz.underlying76 rfl (by kernel_rfl)) rfl ?_
          exact pg_drew hf
end Go.Proofs.YtkemieppamdniaaGreatDoor
namespace Go.Proofs.YtkemieppamdniaaGreatDoor
set_option linter.unusedVariables false
set_option linter.unusedSimpArgs false
open Go.RowKit Go.Shelf

theorem fns_ok {lib : List Fn} (h : SmallOk lib) : FnsOk lib := fun k hk => by
  obtain ⟨h1, h2, h3⟩ := h
  obtain ⟨g1, g2, g3⟩ := norm_good h3 hk
  have hb := h2 k hk
  rw [normL_at hk]
  exact ⟨g1.body, by omega, by omega, g1.plen⟩
set_option maxRecDepth 100000 in
set_option maxHeartbeats 12800000 in
theorem walk_cleangenAccepted (w : World) (ht : Tab w) (lv : Value) (lib : List Fn) (hl : FnsAt Any w lv lib) (k : Int) (hk : 0 ≤ k ∧ k ≤ 255) :
    Calls Tryz.prog 7 #[lv, .int .u8 k] w fun e w' => e = .returned (.bool true) ∧ Below w.heap.size w w' := by
  obtain ⟨hll, la, lc, rfl⟩ := hl.form
  have HNM := Lib.hid (normal_any _ lib Any w hl ht)
  have HT := Lib.hid ht
  clear hl ht
  go_enter Tryz.func7, Tryz.ntmps7
  go_wp2_with fail
  refine HNM.out.mono ?_
  intro e w1 hp1
  have hb1 := hp1.1
  have HAW : Hid (∀ w', Below w1.heap.size w1 w' → Calls Tryz.prog 10 #[] w' fun e w2 => e = .returned (.bool true) ∧ Below w'.heap.size w' w2) := Lib.hid (fun w' h => awake_any w' ((HT.out.below hb1).below h))
  rcases hp1.2 with ⟨xa, xn, xc, rfl⟩ | ⟨xa, xc, rfl, hso, hafn⟩
  · clear hp1
    go_wp2_with (go_at_call 10; refine (HAW.out _ (by first | exact Below.refl _ _ | assumption)).mono ?_; rintro e w2 ⟨rfl, hb2⟩)
    go_ret
    exact ⟨rfl, hb1.trans ((‹Below w1.heap.size w1 _›.trans (hb2.mono ‹Below w1.heap.size w1 _›.size)).mono hb1.size)⟩
  · have HSO := Lib.hid hso
    have HAF := Lib.hid hafn
    clear hp1 hso hafn
    by_cases h0 : (normL lib).length = 0
    · have d0 : (((normL lib).length : Int) == 0) = true := by simp [h0]
      go_wp2_with (go_at_call 10; refine (HAW.out _ (by first | exact Below.refl _ _ | assumption)).mono ?_; rintro e w2 ⟨rfl, hb2⟩)
      go_ret
      exact ⟨rfl, hb1.trans ((‹Below w1.heap.size w1 _›.trans (hb2.mono ‹Below w1.heap.size w1 _›.size)).mono hb1.size)⟩
    · have d0 : (((normL lib).length : Int) == 0) = false := by simp [h0]
      have hnlen : (normL lib).length = lib.length := by simp [normL]
      have hkm : (k % (lib.length : Int)).toNat < (normL lib).length := by
        have := Int.emod_lt_of_pos k (b := (lib.length : Int)) (by omega)
        omega
      have hkn : (0 : Int) ≤ k % (lib.length : Int) ∧ k % (lib.length : Int) < (lib.length : Int) := ⟨Int.emod_nonneg _ (by omega), Int.emod_lt_of_pos k (by omega)⟩
      have d0' : ((lib.length : Int) == 0) = false := by rw [← hnlen]; exact d0
      have ht : k.tmod (lib.length : Int) = k % (lib.length : Int) := Int.tmod_eq_emod_of_nonneg hk.1
      have hl8 := HSO.out.1
      have hi : (k % (lib.length : Int)).toNat < lib.length := by have := hkn; omega
      have HPG : Hid (∀ w', Below w1.heap.size w1 w' → Calls Tryz.prog 30 #[.slice xa lib.length xc, .string (at' (normL lib) (k % (lib.length : Int)).toNat).name, .bool false] w' (PgPost lib (k % (lib.length : Int)).toNat w')) := Lib.hid (fun w' h =>
        program_C lib HSO.out.2.2 hl8 (fns_ok HSO.out) _ hi xa xc w' (by have := HAF.out.stays (A' := Any) (Stays.of_below h); rwa [hnlen] at this))
      have HII := Lib.hid hi
      clear hi
      go_upto_region 5 with (first
        | (go_at_call 10; refine (HAW.out _ (by first | exact Below.refl _ _ | assumption)).mono ?_; rintro e w2 ⟨rfl, hb2⟩; obtain ⟨b, off, cap, pa, pc, ta, tc, ba, bc, he, hb, hcap, c0, c1, c2, c3, c4, c5, hps, htm, hbd, hsn, hsr⟩ := afn_at (HAF.out.stays (A' := Any) (Stays.of_below hb2)) hkm; simp only [Value.slice.injEq] at he; obtain ⟨rfl, -, rfl⟩ := he; clear hps htm hbd hsr; rw [hnlen] at hcap)
        | (go_at_call 30; refine (HPG.out _ (by assumption)).mono ?_; rintro e w3 ⟨hb3, va, vn, vc, pa, pn, pc', mk, mn, ms, ka, kn, kc, b', rfl, hb'⟩; have HB3 := Lib.hid (hb2.trans (hb3.mono hb2.size)); have HBP := Lib.hid hb'; clear hb3 hb' hb2))
      have HB1 := Lib.hid hb1
      have hx := at_new0 w3 (.cells #[.slice va vn vc, .slice pa pn pc', .int .u8 mk, .int .i64 mn, .string ms, .slice ka kn kc] 76)
      obtain ⟨x0, x1, x2, x3, x4, x5⟩ := cells6' hx
      have hA : Below w3.heap.size w3 (w3.alloc (.cells #[.slice va vn vc, .slice pa pn pc', .int .u8 mk, .int .i64 mn, .string ms, .slice ka kn kc] 76)) := bel_alloc (Below.refl _ _)
      have HBF := Lib.hid (HB1.out.trans ((HB3.out.trans (hA.mono HB3.out.size)).mono HB1.out.size))
      cases b' with
      | false =>
        clear hx hA hb1
        go_wp2
        go_ret
        exact ⟨rfl, HBF.out⟩
      | true =>
        obtain ⟨hlim, rfl, rfl, rfl, rfl, rfl, rfl, hpg⟩ := HBP.out rfl
        have hpo := prog_ok HSO.out.2.2 (by omega) (fun j hj => ⟨(hlim j hj).2.2, (hlim j hj).1, (hlim j hj).2.1⟩) HII.out
        have HCK := Lib.hid (checker_ok _ hpo va vc pa pc' ka kc _ (hpg.stays (Stays.of_below hA)))
        clear hx hA hb1 hlim hpg hpo
        go_wp2_with (go_at_call 31; refine HCK.out.mono ?_; rintro e w5 ⟨rfl, hb5⟩; have HB5 := Lib.hid (HBF.out.trans (hb5.mono HBF.out.size)); clear hb5)
        go_ret
        exact ⟨rfl, HB5.out⟩
end Go.Proofs.YtkemieppamdniaaGreatDoor
