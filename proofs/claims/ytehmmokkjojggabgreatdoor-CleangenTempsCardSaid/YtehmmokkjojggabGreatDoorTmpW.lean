/- ast.Walk. -/
import Derived.Test.YtehmmokkjojggabGreatDoorTmpV
namespace Go.Proofs.YtehmmokkjojggabGreatDoor
set_option linter.unusedVariables false
set_option linter.unusedSimpArgs false
open Go.RowKit Go.Shelf
attribute [local go_sem] Oper.semAt_some

theorem VS.start {l n0 : Nat} {A : Nat → Prop} {J : List Nd → World → Prop} {M : World → Nat → Prop} {W W4 : World} (hJM : JM n0 J M) (hn0 : n0 ≤ W.heap.size) (hJ : J [] W) (hb : Below W.heap.size W W4) (hA : ∀ b, A b → b < W.heap.size ∧ ¬ M W b)
    (hY : W4.heap[W.heap.size]? = some (.cells #[.func (.yield l) #[] #[]] 97 (0, 0)))
    (hP : W4.heap[W.heap.size + 1]? = some (.cells #[.slice none 0 0] 65 (0, 0)))
    (hV : W4.heap[W.heap.size + 1 + 1]? = some (.cells #[.func (.func 55) #[] #[.pointer (some ⟨W.heap.size, 0, none⟩), .pointer (some ⟨W.heap.size + 1, 0, none⟩), .pointer (some ⟨W.heap.size + 1 + 1, 0, none⟩)]] 68 (0, 0))) :
    VS l W.heap.size (W.heap.size + 1) (W.heap.size + 1 + 1) n0 A J M [] 0 W4 := by
  obtain ⟨hj4, hm4⟩ := hJM.stay [] W W4 hJ ⟨hb.mono hn0, fun b hm => hb.block b (hJM.lt _ _ _ hJ hm)⟩
  have hno : ∀ b, ¬ M W b → b ≠ W.heap.size + 1 → ¬ Oth (W.heap.size + 1) M W4 b := fun b h1 h2 h => by
    rcases h with h | h | ⟨pv, t, fz, e1, e2⟩
    · exact h1 (hm4 b h)
    · exact h2 h
    · rw [hP] at e1
      simp only [Option.some.injEq, Obj.cells.injEq, Array.mk.injEq, List.cons.injEq, and_true] at e1
      obtain ⟨rfl, -, -⟩ := e1
      cases e2
  have hlt : ∀ b, M W b → b < W.heap.size := fun b hm => hJM.lt _ _ _ hJ hm
  refine ⟨hJM, by omega, hY, hV, ⟨_, [], hP, Own.nil _ _ _, rfl⟩, hj4, hno _ (fun h => by have := hlt _ h; omega) (by omega), hno _ (fun h => by have := hlt _ h; omega) (by omega), fun h => by have := hlt _ (hm4 _ h); omega, ?_, ?_⟩
  · intro pv t fz b e1 e2
    rw [hP] at e1
    simp only [Option.some.injEq, Obj.cells.injEq, Array.mk.injEq, List.cons.injEq, and_true] at e1
    obtain ⟨rfl, -, -⟩ := e1
    cases e2
  · intro b hb'
    obtain ⟨h1, h2⟩ := hA b hb'
    exact ⟨Nat.lt_of_lt_of_le h1 hb.size, hno b h2 (by omega)⟩

set_option maxRecDepth 100000 in
set_option maxHeartbeats 3200000 in
theorem walk_gives {n0 rb : Nat} {A0 : Nat → Prop} {w : World} {n : Nd} {ka : Option Addr} {kc : Nat} (hn0 : n0 ≤ w.heap.size) (hs : sizeN n ≤ 100000)
    (hbox : w.heap[rb]? = some (.cells #[.int .u8 n.kind, .int .i64 n.num, .string n.name, .slice ka n.kids.length kc] 35 (0, 0)))
    (hnd : NdAt A0 w (.agg #[.int .u8 n.kind, .int .i64 n.num, .string n.name, .slice ka n.kids.length kc]) n) :
    Gives Tryz.prog n0 54 #[.pointer (some ⟨rb, 0, none⟩)] (fun b => (A0 b ∨ b = rb) ∧ b < w.heap.size) w (preN n) := by
  intro l W J M hJM hBW hA hY hJ0
  obtain ⟨W4, hW4⟩ : ∃ W4, W4 = ((W.alloc (.cells #[.func (.yield l) #[] #[]] 97)).alloc (.cells #[.slice none 0 0] 65)).alloc (.cells #[.func (.func 55) #[] #[.pointer (some ⟨W.heap.size, 0, none⟩), .pointer (some ⟨W.heap.size + 1, 0, none⟩), .pointer (some ⟨W.heap.size + 1 + 1, 0, none⟩)]] 68) := ⟨_, rfl⟩
  have hb4 : Below W.heap.size W W4 := by subst hW4; exact bel_alloc (bel_alloc (bel_alloc (Below.refl _ _)))
  have hY4 : W4.heap[W.heap.size]? = some (.cells #[.func (.yield l) #[] #[]] 97 (0, 0)) := by subst hW4; exact blk_alloc (blk_alloc (at_new0 _ _))
  have hP4 : W4.heap[W.heap.size + 1]? = some (.cells #[.slice none 0 0] 65 (0, 0)) := by subst hW4; exact blk_alloc (blk_new (by simp))
  have hV4 : W4.heap[W.heap.size + 1 + 1]? = some (.cells #[.func (.func 55) #[] #[.pointer (some ⟨W.heap.size, 0, none⟩), .pointer (some ⟨W.heap.size + 1, 0, none⟩), .pointer (some ⟨W.heap.size + 1 + 1, 0, none⟩)]] 68 (0, 0)) := by subst hW4; exact blk_new (by simp)
  have hwW := hBW.size
  have hvs := VS.start (A := fun b => (A0 b ∨ b = rb) ∧ b < w.heap.size) hJM (by omega) hJ0 hb4 (fun b hb => ⟨by have := hb.2; omega, hA b hb⟩) hY4 hP4 hV4
  have hB : Below w.heap.size w W4 := hBW.trans (hb4.mono hwW)
  have hrb : rb < w.heap.size := (Array.getElem?_eq_some_iff.1 hbox).1
  have hnd4 : NdAt (fun b => (A0 b ∨ b = rb) ∧ b < w.heap.size) W4 (.agg #[.int .u8 n.kind, .int .i64 n.num, .string n.name, .slice ka n.kids.length kc]) n := hnd.stays ⟨hB.size, fun b hb ha => ⟨hB.block b hb, .inl ha, hb⟩⟩
  have HV := Lib.hid (visit_ok hY (sizeN n) n _ _ W4 [] 0 (Nat.le_refl _) hs (by omega) hvs hnd4 (by rw [List.nil_append]; exact List.prefix_refl _))
  obtain ⟨r0, r1, r2, r3⟩ := cells4 (blk_below hB hbox)
  rw [hW4] at r0 r1 r2 r3
  have HW4 := Lib.hid hW4
  clear hvs hY4 hP4 hV4 hb4 hB hnd4 hbox hnd hA hY hJ0 hJM hwW hBW hW4
  refine callsIn_of_wp Tryz.func54 rfl trivial ?_ rfl
  simp only [Tryz.ntmps54, List.size_toArray, List.length_cons, List.length_nil, Nat.reduceAdd, Nat.reduceSub, Array.replicate_succ, Array.replicate_zero, List.push_toArray, List.append_toArray, List.nil_append, List.cons_append]
  gi_wp2_with (refine ⟨trivial, ?_⟩; gi_at_call 55; rw [← HW4.out]; refine (callsIn_wide.2 (callsIn_wide.1 HV.out)).mono ?_; rintro e w5 ⟨rfl, hv5, hk5⟩)
  go_end0
  exact ⟨⟨_, rfl⟩, by have := hv5.j; rwa [List.nil_append] at this⟩

set_option maxRecDepth 100000 in
set_option maxHeartbeats 3200000 in
theorem walk_any (n : Nd) (v : Value) (A : Nat → Prop) (w : World) (h : sizeN n ≤ 100000) (hv : NdAt A w v n) :
    Calls Tryz.prog 21 #[v] w fun e w' => ∃ rb ka kc, e = .returned (.func (.func 54) #[] #[.pointer (some ⟨rb, 0, none⟩)]) ∧ w.heap.size ≤ rb ∧
      w'.heap[rb]? = some (.cells #[.int .u8 n.kind, .int .i64 n.num, .string n.name, .slice ka n.kids.length kc] 35 (0, 0)) ∧ NdAt (Up w.heap.size) w' (.agg #[.int .u8 n.kind, .int .i64 n.num, .string n.name, .slice ka n.kids.length kc]) n ∧ Below w.heap.size w w' := by
  obtain ⟨hok, hlen, ka, kc, rfl, hk⟩ := hv.open
  have hA1 : Below w.heap.size w (w.alloc (.cells #[.int .u8 n.kind, .int .i64 n.num, .string n.name, .slice ka n.kids.length kc] 35)) := bel_alloc (Below.refl _ _)
  have HC := Lib.hid (astClone_any n _ _ _ h (hv.stays (Stays.of_below hA1)))
  have HA1 := Lib.hid hA1
  clear hv hk hok hlen hA1
  go_enter Tryz.func21, Tryz.ntmps21
  go_wp2_with (go_at_call 53; refine HC.out.mono ?_; rintro e w1 ⟨xa, xc, rfl, hn1, hb1⟩; have HN1 := Lib.hid hn1; have HB1 := Lib.hid hb1; clear hn1 hb1)
  go_ret
  have hb : Below w.heap.size w w1 := bel_step HB1.out HA1.out
  refine ⟨w1.heap.size, xa, xc, rfl, hb.size, at_new0 _ _, ?_, bel_alloc hb⟩
  have h0 := HN1.out
  have hbx : Below w1.heap.size w1 (w1.alloc (.cells #[.int .u8 n.kind, .int .i64 n.num, .string n.name, .slice xa n.kids.length xc] 35)) := bel_alloc (Below.refl _ _)
  exact (h0.stays (A' := Up w.heap.size) ⟨Nat.le_refl _, fun b hb ha => ⟨rfl, by have h1 : (w.alloc (.cells #[.int .u8 n.kind, .int .i64 n.num, .string n.name, .slice ka n.kids.length kc] 35)).heap.size ≤ b := ha; simp at h1; show w.heap.size ≤ b; omega⟩⟩).stays (Stays.of_below hbx)
end Go.Proofs.YtehmmokkjojggabGreatDoor
