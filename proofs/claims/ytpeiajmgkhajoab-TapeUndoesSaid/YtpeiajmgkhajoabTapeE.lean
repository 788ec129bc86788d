/- Operations as arguments; great, inverse and do. -/
import Derived.Test.YtpeiajmgkhajoabTapeD
import Derived.Deep.SlicePairs
import Derived.Lib.SmallJoins
namespace Go.Proofs.Ytpeiajmgkhajoab
set_option linter.unusedVariables false
open Go.ChangeShapes Go.WideShapes Go.ChangeAt Go.RowKit

/-- an int fits -/
def In64 (x : Int) : Prop := -9223372036854775808 ≤ x ∧ x ≤ 9223372036854775807

def opAt (l : List (Int × Int)) (j : Nat) : Int × Int := l[j]?.getD (0, 0)

/-- a slice of operations that came in -/
def OpsAt (w : World) (v : Value) (l : List (Int × Int)) : Prop :=
  l.length * 16 ≤ 140737488351232 ∧ (∀ x ∈ l, In64 x.1 ∧ In64 x.2) ∧ ∃ a cap, v = .slice a l.length cap ∧
    (0 < l.length → ∃ b off, a = some ⟨b, off, none⟩ ∧ b < w.heap.size ∧ ∀ j, j < l.length → w.cell? ⟨b, off + j * 2, none⟩ = some (.int .i64 (opAt l j).1) ∧ w.cell? ⟨b, off + j * 2 + 1, none⟩ = some (.int .i64 (opAt l j).2))

theorem OpsAt.below {w w' : World} {v : Value} {l : List (Int × Int)} (h : OpsAt w v l) (hb : Below w.heap.size w w') : OpsAt w' v l := by
  obtain ⟨h1, h2, a, cap, rfl, h3⟩ := h
  refine ⟨h1, h2, a, cap, rfl, fun hl => ?_⟩
  obtain ⟨b, off, rfl, hlt, hc⟩ := h3 hl
  exact ⟨b, off, rfl, Nat.lt_of_lt_of_le hlt hb.size, fun j hj => ⟨(hb.cell (p := ⟨b, off + j * 2, none⟩) hlt).trans (hc j hj).1, (hb.cell (p := ⟨b, off + j * 2 + 1, none⟩) hlt).trans (hc j hj).2⟩⟩

theorem OpsAt.form {w : World} {v : Value} {l : List (Int × Int)} (h : OpsAt w v l) : ∃ a c, v = .slice a l.length c := by
  obtain ⟨_, _, a, c, h, _⟩ := h
  exact ⟨a, c, h⟩

theorem opAt_mem {l : List (Int × Int)} {j : Nat} (h : j < l.length) : opAt l j ∈ l := by
  rw [opAt, List.getElem?_eq_getElem h]; simp

theorem add_spell (b off n : Nat) : (⟨b, off, none⟩ : Addr).add n = ⟨b, off + n, none⟩ := by
  unfold Addr.add
  split
  · next h => subst h; rfl
  · rfl

theorem bytesOp : Try.prog.bytesOf 37 = 16 := by kernel_rfl
theorem OpsAt.nil (w : World) : OpsAt w (.slice none 0 0) [] := ⟨by simp, fun _ h => by simp at h, none, 0, rfl, fun h => by simp at h⟩

/-- a slice of operations that came in -/
theorem openOps {H : Type} {enc : TypeId × Value → H} {W : World} {v : Value} {d : DataW H} {p : List MemPlace} {base : Nat} (hv : Value.okWide Try.prog W .any base 32 v)
    (h : DataW.Trod enc Try.prog W 0 (fun _ => true) true 32 v d p) (hsz : ∀ elems spare, d = .slice elems spare → (elems.length + spare.length) * Try.prog.bytesOf 37 ≤ reachBytes) : ∃ l, OpsAt W v l := by
  obtain ⟨a, len, cap, rfl⟩ := okWide_slice Try.underlying32 hv
  obtain ⟨fuel, hf⟩ := h
  rcases Go.Deep.open_slice_pairs Try.underlying32 Try.underlying37 (by kernel_rfl) rfl rfl (by kernel_rfl) (by kernel_rfl) hf with ⟨hcs, _⟩ | ⟨x, l, c, m, n, V0, V1, D0, D1, P0, P1, hcs, _, hl, hm, hmm, hx, hc⟩
  · simp [Value.cells] at hcs
    obtain ⟨rfl, rfl, rfl⟩ := hcs
    exact ⟨[], OpsAt.nil _⟩
  · simp [Value.cells] at hcs
    obtain ⟨rfl, rfl, rfl⟩ := hcs
    simp only [if_true] at hmm
    simp only [Prod.mk.injEq] at hx
    have hw := hsz _ _ hx.1
    rw [bytesOp] at hw
    have e : reachBytes = 140737488351232 := by decide
    rw [e] at hw
    simp only [List.length_map, List.length_range] at hw
    have hi : ∀ i, i < len → ∃ q : Int × Int, V0 i = .int .i64 q.1 ∧ V1 i = .int .i64 q.2 ∧ In64 q.1 ∧ In64 q.2 := by
      intro i hi
      obtain ⟨_, _, t0, t1⟩ := hc i (by omega)
      obtain ⟨n0, e0, _, w0⟩ := DataW.trod_int Try.underlying3 t0
      obtain ⟨n1, e1, _, w1⟩ := DataW.trod_int Try.underlying3 t1
      simp at e0 e1
      exact ⟨(n0, n1), e0, e1, rangeI64 w0, rangeI64 w1⟩
    obtain ⟨q, hq⟩ := Go.Deep.choose_lt hi
    have hat : ∀ j, j < len → opAt ((List.range len).map q) j = q j := by
      intro j hj
      simp [opAt, hj]
    refine ⟨(List.range len).map q, by simp; omega, fun y hy => ?_, some x, cap, by simp, fun hpos => ?_⟩
    · simp only [List.mem_map, List.mem_range] at hy
      obtain ⟨j, hj, rfl⟩ := hy
      exact (hq j hj).2.2
    · simp only [List.length_map, List.length_range] at hpos
      obtain ⟨b, off, rfl⟩ : ∃ b off, x = ⟨b, off, none⟩ := by
        have h0 := (hc 0 (by omega)).1
        obtain ⟨b, off, u⟩ := x
        have hspot : u = none := by simpa [Addr.add] using World.cell?_spot h0
        subst hspot
        exact ⟨b, off, rfl⟩
      refine ⟨b, off, rfl, ?_, fun j hj => ?_⟩
      · have h0 := (hc 0 (by omega)).1
        apply Classical.byContradiction
        intro hn
        have e : W.heap[b]? = none := by rw [Array.getElem?_eq_none_iff]; omega
        simp [World.cell?, e, Addr.add] at h0
      · simp only [List.length_map, List.length_range] at hj
        have h0 := hc j (by omega)
        rw [hat j hj, ← (hq j hj).1, ← (hq j hj).2.1]
        exact ⟨by rw [← h0.1, add_spell], by rw [← h0.2.1, add_spell, Nat.add_assoc]⟩

theorem great_any (v u x : Value) (i o : List Int) (l : List (Int × Int)) (w : World) (hv : IntsAt w v i) (hu : IntsAt w u o) (hx : OpsAt w x l) :
    Calls Try.prog 12 #[v, u, x] w fun e w' => e = .returned (.bool (decide (5000 < i.length) || (decide (5000 < o.length) || decide (60 < l.length)))) ∧ w = w' := by
  have e1 := hv.1
  have e2 := hu.1
  have e3 := hx.1
  obtain ⟨a, cap, rfl⟩ := hv.form
  obtain ⟨a', cap', rfl⟩ := hu.form
  obtain ⟨a'', cap'', rfl⟩ := hx.form
  clear hv hu hx
  by_cases h1 : 5000 < i.length
  · have d1 : decide (5000 < (i.length : Int)) = true := by simp; omega
    go_enter Try.func12, Try.ntmps12
    go_wp2
    go_ret
    exact ⟨by simp [h1], rfl⟩
  · have d1 : decide (5000 < (i.length : Int)) = false := by simp; omega
    by_cases h2 : 5000 < o.length
    · have d2 : decide (5000 < (o.length : Int)) = true := by simp; omega
      go_enter Try.func12, Try.ntmps12
      go_wp2
      go_ret
      exact ⟨by simp [h2], rfl⟩
    · have d2 : decide (5000 < (o.length : Int)) = false := by simp; omega
      by_cases h3 : 60 < l.length
      · have d3 : decide (60 < (l.length : Int)) = true := by simp; omega
        go_enter Try.func12, Try.ntmps12
        go_wp2
        go_ret
        exact ⟨by simp [h3], rfl⟩
      · have d3 : decide (60 < (l.length : Int)) = false := by simp; omega
        go_enter Try.func12, Try.ntmps12
        go_wp2
        go_ret
        exact ⟨by simp [h1, h2, h3], rfl⟩

/-- what an operation answers and leaves -/
def opV (k : Int) (i o : List Int) : Int := if k = 1 then readV i else if k = 2 then 0 else if k = 3 then 0 else unwriteV o
def opE (k : Int) (i o : List Int) : Int := if k = 1 then readE i else if k = 2 then unreadE i else if k = 3 then unreadE o else readE o
def opI (k n : Int) (i : List Int) : List Int := if k = 1 then i.tail else if k = 2 then unreadL i n else i
def opO (k n : Int) (o : List Int) : List Int := if k = 1 then o else if k = 2 then o else if k = 3 then writeL o n else o.dropLast

theorem Left.unalloc {w w' : World} {x : Obj} {base b t : Nat} {i o : List Int} {S : Nat → Prop} (h : Left (w.alloc x) w' base b t i o S) : Left w w' base b t i o S := by
  obtain ⟨S', h1, h2, h3⟩ := h
  refine ⟨S', h1, ⟨h2.os, h2.tape, h2.output, by have := h2.size; simp at this; omega, fun k hk hn => (h2.block k (by simp; omega) hn).trans (Below.heap_alloc _ _ _ hk)⟩, fun k hk => ?_⟩
  rcases h3 k hk with h | h
  · exact .inl h
  · exact .inr (by simp at h; omega)

theorem TapeAt.below {w w' : World} {base b t : Nat} {i o : List Int} {S : Nat → Prop} (h : TapeAt w base b t i o S) (hb : Below w.heap.size w w') : TapeAt w' base b t i o S := h.keeps (Keeps.of_below (fun _ => False) hb) (fun _ _ e => e)
theorem TapeAt.alloc {w : World} {base b t : Nat} {i o : List Int} {S : Nat → Prop} (h : TapeAt w base b t i o S) (x : Obj) : TapeAt (w.alloc x) base b t i o S := h.below ((Below.refl _ _).alloc (Nat.le_refl _) _)

theorem do_any (w : World) (base b : Nat) (i o : List Int) (k n : Int) (S : Nat → Prop) (h : TapeAt w base b 48 i o S) (hn : In64 n) :
    Calls Try.prog 16 #[.pointer (some ⟨b, 0, none⟩), .agg #[.int .i64 k, .int .i64 n]] w fun e w' => e = .returned (.tuple #[.int .i64 (opV k i o), .int .i64 (opE k i o)]) ∧ Left w w' base b 48 (opI k n i) (opO k n o) S := by
  have ha := h.alloc (.cells #[.int .i64 k, .int .i64 n] 37)
  clear h
  by_cases k1 : k = 1
  · subst k1
    go_enter Try.func16, Try.ntmps16
    go_wp2_with fail
    refine (read_any _ base b i o S ha).mono ?_
    rintro e w1 ⟨rfl, hl⟩
    go_wp2
    go_ret2
    exact ⟨rfl, hl.unalloc⟩
  · have d1 : (k == 1) = false := by simpa using k1
    by_cases k2 : k = 2
    · subst k2
      go_enter Try.func16, Try.ntmps16
      go_wp2_with fail
      refine (unread_any _ base b i o n S ha hn).mono ?_
      rintro e w1 ⟨rfl, hl⟩
      go_wp2
      go_ret2
      exact ⟨rfl, hl.unalloc⟩
    · have d2 : (k == 2) = false := by simpa using k2
      by_cases k3 : k = 3
      · subst k3
        go_enter Try.func16, Try.ntmps16
        go_wp2_with fail
        refine (write_any _ base b i o n S ha hn).mono ?_
        rintro e w1 ⟨rfl, hl⟩
        go_wp2
        go_ret2
        exact ⟨rfl, hl.unalloc⟩
      · have d3 : (k == 3) = false := by simpa using k3
        go_enter Try.func16, Try.ntmps16
        go_wp2_with fail
        refine (unwrite_any _ base b i o S ha).mono ?_
        rintro e w1 ⟨rfl, hl⟩
        go_wp2
        go_ret2
        simp only [opV, opE, opI, opO, if_neg k1, if_neg k2, if_neg k3]
        exact ⟨rfl, hl.unalloc⟩

theorem do_nil (w : World) (k n : Int) :
    Calls Try.prog 16 #[.pointer none, .agg #[.int .i64 k, .int .i64 n]] w fun e w' => e = .returned (.tuple #[.int .i64 0, .int .i64 1]) ∧ Below w.heap.size w w' := by
  have hA : Below w.heap.size w (w.alloc (.cells #[.int .i64 k, .int .i64 n] 37)) := (Below.refl _ _).alloc (Nat.le_refl _) _
  by_cases k1 : k = 1
  · subst k1
    go_enter Try.func16, Try.ntmps16
    go_wp2_with fail
    refine (read_nil _).mono ?_
    rintro e w1 ⟨rfl, rfl⟩
    go_wp2
    go_ret2
    exact ⟨rfl, hA⟩
  · have d1 : (k == 1) = false := by simpa using k1
    by_cases k2 : k = 2
    · subst k2
      go_enter Try.func16, Try.ntmps16
      go_wp2_with fail
      refine (unread_nil _ _).mono ?_
      rintro e w1 ⟨rfl, rfl⟩
      go_wp2
      go_ret2
      exact ⟨rfl, hA⟩
    · have d2 : (k == 2) = false := by simpa using k2
      by_cases k3 : k = 3
      · subst k3
        go_enter Try.func16, Try.ntmps16
        go_wp2_with fail
        refine (write_nil _ _).mono ?_
        rintro e w1 ⟨rfl, rfl⟩
        go_wp2
        go_ret2
        exact ⟨rfl, hA⟩
      · have d3 : (k == 3) = false := by simpa using k3
        go_enter Try.func16, Try.ntmps16
        go_wp2_with fail
        refine (unwrite_nil _).mono ?_
        rintro e w1 ⟨rfl, rfl⟩
        go_wp2
        go_ret2
        exact ⟨rfl, hA⟩

/-- the operation that undoes one -/
def invK (k : Int) : Int := if k = 1 then 2 else if k = 2 then 1 else if k = 3 then 4 else 3
def invN (k n : Int) : Int := if k = 1 then n else if k = 2 then 0 else if k = 3 then 0 else n

theorem inverse_any (w : World) (k m n : Int) :
    Calls Try.prog 18 #[.agg #[.int .i64 k, .int .i64 m], .int .i64 n] w fun e w' => e = .returned (.agg #[.int .i64 (invK k), .int .i64 (invN k n)]) ∧ Below w.heap.size w w' := by
  by_cases k1 : k = 1
  · subst k1
    go_enter Try.func18, Try.ntmps18
    go_wp2
    exact bodyPost_ret (v := .agg #[.int .i64 (invK 1), .int .i64 (invN 1 n)]) (by simp [results, Try.results18, go_sem, invK, invN]) rfl ⟨rfl, (((Below.refl _ _).alloc (Nat.le_refl _) _).alloc (by simp) _)⟩
  · have d1 : (k == 1) = false := by simpa using k1
    by_cases k2 : k = 2
    · subst k2
      go_enter Try.func18, Try.ntmps18
      go_wp2
      exact bodyPost_ret (v := .agg #[.int .i64 (invK 2), .int .i64 (invN 2 n)]) (by simp [results, Try.results18, go_sem, invK, invN]) rfl ⟨rfl, (((Below.refl _ _).alloc (Nat.le_refl _) _).alloc (by simp) _)⟩
    · have d2 : (k == 2) = false := by simpa using k2
      by_cases k3 : k = 3
      · subst k3
        go_enter Try.func18, Try.ntmps18
        go_wp2
        exact bodyPost_ret (v := .agg #[.int .i64 (invK 3), .int .i64 (invN 3 n)]) (by simp [results, Try.results18, go_sem, invK, invN]) rfl ⟨rfl, (((Below.refl _ _).alloc (Nat.le_refl _) _).alloc (by simp) _)⟩
      · have d3 : (k == 3) = false := by simpa using k3
        go_enter Try.func18, Try.ntmps18
        go_wp2
        exact bodyPost_ret (v := .agg #[.int .i64 (invK k), .int .i64 (invN k n)]) (by simp [results, Try.results18, go_sem, invK, invN, k1, k2, k3]) rfl ⟨rfl, (((Below.refl _ _).alloc (Nat.le_refl _) _).alloc (by simp) _)⟩
end Go.Proofs.Ytpeiajmgkhajoab
