/- Arguments, and a tape beside the reference's. -/
import Derived.Test.YtpeiajmgkhajoabTapeG
import Derived.Test.YtpeiajmgkhajoabTapeH
namespace Go.Proofs.Ytpeiajmgkhajoab
set_option linter.unusedVariables false
open Go.ChangeShapes Go.WideShapes Go.ChangeAt Go.RowKit

/-- a slice of ints that came in -/
def RInts (w : World) (v : Value) (l : List Int) : Prop := IntsAt w v l ∧ Roomy v

theorem RInts.below {w w' : World} {v : Value} {l : List Int} (h : RInts w v l) (hb : Below w.heap.size w w') : RInts w' v l := ⟨h.1.below hb, h.2⟩
theorem RInts.nil (w : World) : RInts w (.slice none 0 0) [] := ⟨IntsAt.nil w, fun a n c h => by simp at h; omega⟩

theorem openRInts {H : Type} {enc : TypeId × Value → H} {W : World} {v : Value} {d : DataW H} {p : List MemPlace} {base : Nat} (hv : Value.okWide Try.prog W .any base 22 v)
    (h : DataW.Trod enc Try.prog W 0 (fun _ => true) true 22 v d p) (hsz : ∀ elems spare, d = .slice elems spare → (elems.length + spare.length) * Try.prog.bytesOf 3 ≤ reachBytes) : ∃ l, RInts W v l := by
  obtain ⟨l, hl⟩ := openInts hv h hsz
  refine ⟨l, hl, ?_⟩
  obtain ⟨a, len, cap, rfl⟩ := okWide_slice Try.underlying22 hv
  obtain ⟨fuel, hf⟩ := h
  rcases open_ints Try.underlying22 Try.underlying3 (by kernel_rfl) hf with ⟨hcs, _⟩ | ⟨x, l, c, zs, hcs, _, hl, hm, hz, hx, hcell, hwz⟩
  · simp [Value.cells] at hcs
    intro a n c h; simp at h; omega
  · simp [Value.cells] at hcs
    intro a n c h; simp at h; omega

/-- an operation that came in -/
def OpIs (w : World) (v : Value) (q : Int × Int) : Prop := v = .agg #[.int .i64 q.1, .int .i64 q.2] ∧ In64 q.1 ∧ In64 q.2

theorem openOp {H : Type} {enc : TypeId × Value → H} {W : World} {v : Value} {d : DataW H} {p : List MemPlace} {base : Nat} (hv : Value.okWide Try.prog W .any base 37 v)
    (h : DataW.Trod enc Try.prog W 0 (fun _ => true) true 37 v d p) : ∃ q, OpIs W v q := by
  obtain ⟨v0, v1, y0, y1, n, rfl, rfl, rfl, t0, t1⟩ := Go.Joins.open_agg2 Try.underlying37 (by kernel_rfl) (by kernel_rfl) hv h
  obtain ⟨n0, e0, _, w0⟩ := DataW.trod_int Try.underlying3 t0
  obtain ⟨n1, e1, _, w1⟩ := DataW.trod_int Try.underlying3 t1
  simp at e0 e1
  exact ⟨(n0, n1), by rw [e0, e1], rangeI64 w0, rangeI64 w1⟩

/-- a tape at b and the reference's at r, holding the same; nothing below B was touched since w -/
def Both (B : Nat) (w wr : World) (base b r : Nat) (i o : List Int) : Prop :=
  ∃ S R, TapeAt wr base b 48 i o S ∧ RefAt wr r i o R ∧ (∀ k, S k → ¬ R k) ∧ Below B w wr ∧ B ≤ base ∧ B ≤ r ∧ B ≤ w.heap.size

theorem Both.start {B : Nat} {w wr : World} {base b : Nat} {i o : List Int} {S : Nat → Prop} (ht : TapeAt wr base b 48 i o S) {v u : Value} (hv : RInts wr v i) (hu : RInts wr u o) (hB : Below B w wr) (hbase : B ≤ base) (hw : B ≤ w.heap.size)
    (hf : ∀ k, S k → ¬ Foot v i k ∧ ¬ Foot u o k) : Both B w (wr.alloc (.cells #[v, u] 35)) base b wr.heap.size i o := by
  have hA : Below wr.heap.size wr (wr.alloc (.cells #[v, u] 35)) := (Below.refl _ _).alloc (Nat.le_refl _) _
  have hz := hB.size
  refine ⟨S, fun k => k = wr.heap.size ∨ Foot v i k ∨ Foot u o k, ht.alloc _, ⟨v, u, heap_alloc_new _ _, hv.1.below hA, hu.1.below hA, hv.2, hu.2, fun k => Iff.rfl⟩, ?_, hB.alloc (by omega) _, hbase, by omega, hw⟩
  rintro k hk (rfl | h | h)
  · have := (ht.base_le _ hk).2; omega
  · exact (hf k hk).1 h
  · exact (hf k hk).2 h

theorem Both.below {B : Nat} {w wr w' : World} {base b r : Nat} {i o : List Int} (h : Both B w wr base b r i o) (hb : Below wr.heap.size wr w') : Both B w w' base b r i o := by
  obtain ⟨S, R, h1, h2, h3, h4, h5, h6, h7⟩ := h
  have := h4.size
  exact ⟨S, R, h1.below hb, h2.below hb, h3, h4.trans (hb.mono (by omega)), h5, h6, h7⟩

/-- the two behind a step of the first: the reference's is not yet there -/
def Half (B : Nat) (w wr : World) (base b r : Nat) (i o i' o' : List Int) : Prop :=
  ∃ S R, TapeAt wr base b 48 i o S ∧ RefAt wr r i' o' R ∧ (∀ k, S k → ¬ R k) ∧ Below B w wr ∧ B ≤ base ∧ B ≤ r ∧ B ≤ w.heap.size

theorem half_of {B : Nat} {w wr w' : World} {base b r : Nat} {i o i1 o1 : List Int} {S R : Nat → Prop} (h1 : TapeAt wr base b 48 i o S) (h2 : RefAt wr r i o R) (h3 : ∀ k, S k → ¬ R k) (h4 : Below B w wr) (h5 : B ≤ base) (h6 : B ≤ r) (h7 : B ≤ w.heap.size)
    (hl : Left wr w' base b 48 i1 o1 S) : Half B w w' base b r i1 o1 i o ∧ ∀ p, p.block < wr.heap.size → ¬ S p.block → w'.cell? p = wr.cell? p := by
  have hz := h4.size
  have hbl := hl.below (fun k hk => (h1.base_le k hk).1) h1.le
  obtain ⟨S', t1, k1, g1⟩ := hl
  refine ⟨⟨S', R, t1, h2.keeps k1 (fun k hR hS => h3 k hS hR), fun k hs hr => ?_, h4.trans (hbl.mono h5), h5, h6, h7⟩, fun p hp hn => ?_⟩
  · rcases g1 k hs with h | h
    · exact h3 k h hr
    · have := h2.lt k hr; omega
  · simp only [World.cell?, k1.block p.block hp hn]

theorem both_of {B : Nat} {w wr w' : World} {base b r : Nat} {i o i' o' : List Int} {S R : Nat → Prop} (h1 : TapeAt wr base b 48 i o S) (h2 : RefAt wr r i' o' R) (h3 : ∀ k, S k → ¬ R k) (h4 : Below B w wr) (h5 : B ≤ base) (h6 : B ≤ r) (h7 : B ≤ w.heap.size)
    (hl : RLeft wr w' r i o R) : Both B w w' base b r i o := by
  have hz := h4.size
  obtain ⟨R', t1, k1, g1⟩ := hl
  have hr : R r := by obtain ⟨_, _, _, _, _, _, _, hR⟩ := h2; exact (hR r).2 (.inl rfl)
  refine ⟨S, R', h1.keeps k1 (fun k hS e => h3 k hS (e ▸ hr)), t1, fun k hs hr' => ?_, h4.trans (k1.below (fun k e => by omega) (by omega)), h5, h6, h7⟩
  rcases g1 k hr' with h | h
  · exact h3 k hs h
  · have := (h1.base_le k hs).2; omega
end Go.Proofs.Ytpeiajmgkhajoab
