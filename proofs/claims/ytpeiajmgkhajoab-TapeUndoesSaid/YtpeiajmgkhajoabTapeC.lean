/- A tape in the heap, and its methods. -/
import Derived.Test.YtpeiajmgkhajoabTapeB
import Derived.StillTailTactics
import Derived.Deep.RegionWith
import Derived.IntWalk
import Derived.Outline
namespace Go.Proofs.Ytpeiajmgkhajoab
set_option linter.unusedVariables false
open Go.RowKit

/-- a block of two rows: an input and an output. S: the blocks that are the tape's own -/
def TapeAt (w : World) (base b : Nat) (t : TypeId) (i o : List Int) (S : Nat → Prop) : Prop :=
  ∃ iv ov, t ≠ 3 ∧ base ≤ b ∧ base ≤ w.heap.size ∧ w.heap[b]? = some (.cells #[iv, ov] t (0, 0)) ∧ Own w base 3 iv i ∧ Own w base 3 ov o ∧ Sep iv ov ∧ ∀ k, S k ↔ (k = b ∨ iv.ownBlock = some k ∨ ov.ownBlock = some k)

/-- what is new is younger -/
def Grew (w : World) (S S' : Nat → Prop) : Prop := ∀ k, S' k → S k ∨ w.heap.size ≤ k

theorem row_ne {w : World} {base b t : Nat} {arr : Array Value} {v : Value} {l : List Int} (h : Own w base 3 v l) (hb : w.heap[b]? = some (.cells arr t (0, 0))) (ht : t ≠ 3) : v.ownBlock ≠ some b := by
  intro e
  rcases h.2.2.2 with ⟨rfl, hn⟩ | ⟨g, cap, cur, rfl, hbg, hg, -⟩
  · simp [Value.ownBlock] at e
  · simp only [Value.ownBlock, Option.some.injEq] at e
    subst e
    rw [hb] at hg
    simp at hg
    exact ht hg.2

theorem own_keeps {w w' : World} {base : Nat} {v : Value} {l : List Int} {S : Nat → Prop} (h : Own w base 3 v l) (hk : Keeps w w' S) (hs : ∀ k, v.ownBlock = some k → ¬ S k) : Own w' base 3 v l := by
  refine ⟨h.1, h.2.1, h.2.2.1, ?_⟩
  rcases h.2.2.2 with ⟨rfl, hn⟩ | ⟨g, cap, cur, rfl, hbg, hg, hrest⟩
  · exact .inl ⟨rfl, hn⟩
  · refine .inr ⟨g, cap, cur, rfl, hbg, ?_, hrest⟩
    have hgl : g < w.heap.size := by rw [Array.getElem?_eq_some_iff] at hg; exact hg.1
    exact (hk.block g hgl (hs g rfl)).trans hg

theorem Keeps.mono {w w' : World} {S T : Nat → Prop} (h : Keeps w w' S) (hs : ∀ k, S k → T k) : Keeps w w' T := ⟨h.os, h.tape, h.output, h.size, fun k hk hn => h.block k hk fun e => hn (hs k e)⟩
theorem Keeps.refl (w : World) (S : Nat → Prop) : Keeps w w S := ⟨rfl, rfl, rfl, Nat.le_refl _, fun _ _ _ => rfl⟩
theorem Keeps.trans {w w1 w2 : World} {S S' : Nat → Prop} (h : Keeps w w1 S) (h' : Keeps w1 w2 S') (hg : Grew w S S') : Keeps w w2 S :=
  ⟨h'.os.trans h.os, h'.tape.trans h.tape, h'.output.trans h.output, Nat.le_trans h.size h'.size, fun k hk hn => (h'.block k (Nat.lt_of_lt_of_le hk h.size) fun e => by
    rcases hg k e with e | e
    · exact hn e
    · omega).trans (h.block k hk hn)⟩
theorem Keeps.of_below {w w' : World} (S : Nat → Prop) (h : Below w.heap.size w w') : Keeps w w' S := ⟨h.os, h.tape, h.output, h.size, fun k hk _ => h.block k hk⟩
theorem Keeps.below {w w' : World} {S : Nat → Prop} {B : Nat} (h : Keeps w w' S) (hs : ∀ k, S k → B ≤ k) (hB : B ≤ w.heap.size) : Below B w w' :=
  ⟨h.os, h.tape, h.output, h.size, fun k hk => h.block k (by omega) fun e => by have := hs k e; omega⟩

theorem TapeAt.base_le {w : World} {base b t : Nat} {i o : List Int} {S : Nat → Prop} (h : TapeAt w base b t i o S) : ∀ k, S k → base ≤ k ∧ k < w.heap.size := by
  obtain ⟨iv, ov, ht, hb, hbs, hh, hi, ho, hs, hS⟩ := h
  intro k hk
  rcases (hS k).1 hk with rfl | h | h
  · exact ⟨hb, by rw [Array.getElem?_eq_some_iff] at hh; exact hh.1⟩
  · exact ⟨hi.base_le k h, hi.lies k h⟩
  · exact ⟨ho.base_le k h, ho.lies k h⟩

theorem TapeAt.keeps {w w' : World} {base b t : Nat} {i o : List Int} {S T : Nat → Prop} (h : TapeAt w base b t i o S) (hk : Keeps w w' T) (hd : ∀ k, S k → ¬ T k) : TapeAt w' base b t i o S := by
  obtain ⟨iv, ov, ht, hb, hbs, hh, hi, ho, hs, hS⟩ := h
  have hbl : b < w.heap.size := by rw [Array.getElem?_eq_some_iff] at hh; exact hh.1
  refine ⟨iv, ov, ht, hb, Nat.le_trans hbs hk.size, (hk.block b hbl (hd b ((hS b).2 (.inl rfl)))).trans hh, own_keeps hi hk fun k e => hd k ((hS k).2 (.inr (.inl e))), own_keeps ho hk fun k e => hd k ((hS k).2 (.inr (.inr e))), hs, hS⟩

/-- the input's row replaced -/
theorem tape_set0 {w w' : World} {base b t : Nat} {i o i' : List Int} {S : Nat → Prop} {iv ov v' : Value} (ht : t ≠ 3) (hb : base ≤ b) (hbs : base ≤ w.heap.size) (hh : w.heap[b]? = some (.cells #[iv, ov] t (0, 0)))
    (hi : Own w base 3 iv i) (ho : Own w base 3 ov o) (hs : Sep iv ov) (hS : ∀ k, S k ↔ (k = b ∨ iv.ownBlock = some k ∨ ov.ownBlock = some k))
    (h1 : Own w' base 3 v' i') (h2 : w'.heap[b]? = some (.cells ((#[iv, ov] : Array Value).setIfInBounds 0 v') t (0, 0))) (h3 : Keeps w w' (fun k => k = b ∨ iv.ownBlock = some k)) (h4 : NewOr w iv v') :
    ∃ S', TapeAt w' base b t i' o S' ∧ Keeps w w' S ∧ Grew w S S' := by
  have hne := row_ne ho hh ht
  refine ⟨fun k => k = b ∨ v'.ownBlock = some k ∨ ov.ownBlock = some k, ⟨v', ov, ht, hb, Nat.le_trans hbs h3.size, h2, h1, own_keeps ho h3 ?_, (hs.symm.new ho.lies h4).symm, fun k => Iff.rfl⟩, h3.mono ?_, ?_⟩
  · rintro k hk (rfl | h)
    · exact hne hk
    · exact hs k h hk
  · rintro k (rfl | h)
    · exact (hS _).2 (.inl rfl)
    · exact (hS k).2 (.inr (.inl h))
  · rintro k (rfl | h | h)
    · exact .inl ((hS _).2 (.inl rfl))
    · rcases h4 k h with h | h
      · exact .inl ((hS k).2 (.inr (.inl h)))
      · exact .inr h
    · exact .inl ((hS k).2 (.inr (.inr h)))

/-- the output's row replaced -/
theorem tape_set1 {w w' : World} {base b t : Nat} {i o o' : List Int} {S : Nat → Prop} {iv ov v' : Value} (ht : t ≠ 3) (hb : base ≤ b) (hbs : base ≤ w.heap.size) (hh : w.heap[b]? = some (.cells #[iv, ov] t (0, 0)))
    (hi : Own w base 3 iv i) (ho : Own w base 3 ov o) (hs : Sep iv ov) (hS : ∀ k, S k ↔ (k = b ∨ iv.ownBlock = some k ∨ ov.ownBlock = some k))
    (h1 : Own w' base 3 v' o') (h2 : w'.heap[b]? = some (.cells ((#[iv, ov] : Array Value).setIfInBounds 1 v') t (0, 0))) (h3 : Keeps w w' (fun k => k = b ∨ ov.ownBlock = some k)) (h4 : NewOr w ov v') :
    ∃ S', TapeAt w' base b t i o' S' ∧ Keeps w w' S ∧ Grew w S S' := by
  have hne := row_ne hi hh ht
  refine ⟨fun k => k = b ∨ iv.ownBlock = some k ∨ v'.ownBlock = some k, ⟨iv, v', ht, hb, Nat.le_trans hbs h3.size, h2, own_keeps hi h3 ?_, h1, hs.new hi.lies h4, fun k => Iff.rfl⟩, h3.mono ?_, ?_⟩
  · rintro k hk (rfl | h)
    · exact hne hk
    · exact hs k hk h
  · rintro k (rfl | h)
    · exact (hS _).2 (.inl rfl)
    · exact (hS k).2 (.inr (.inr h))
  · rintro k (rfl | h | h)
    · exact .inl ((hS _).2 (.inl rfl))
    · exact .inl ((hS k).2 (.inr (.inl h)))
    · rcases h4 k h with h | h
      · exact .inl ((hS k).2 (.inr (.inr h)))
      · exact .inr h

/-- what the methods answer and leave -/
def readV (i : List Int) : Int := if i.length = 0 then 0 else nth i 0
def readE (i : List Int) : Int := if i.length = 0 then 17 else 0
def unreadE (i : List Int) : Int := if 4096 ≤ i.length then 5 else 0
def unreadL (i : List Int) (x : Int) : List Int := if 4096 ≤ i.length then i else x :: i
def writeL (o : List Int) (x : Int) : List Int := if 4096 ≤ o.length then o else o ++ [x]
def unwriteV (o : List Int) : Int := if o.length = 0 then 0 else nth o (o.length - 1)

/-- the tape left by a method: what its rows hold, and what was touched -/
def Left (w w' : World) (base b : Nat) (t : TypeId) (i o : List Int) (S : Nat → Prop) : Prop := ∃ S', TapeAt w' base b t i o S' ∧ Keeps w w' S ∧ Grew w S S'

theorem Left.refl {w : World} {base b t : Nat} {i o : List Int} {S : Nat → Prop} (h : TapeAt w base b t i o S) : Left w w base b t i o S := ⟨S, h, Keeps.refl _ _, fun _ h => .inl h⟩

theorem Left.undrew {w w' : World} {base b t : Nat} {i o : List Int} {S : Nat → Prop} (h : Left w.drew w' base b t i o S) : Left w w' base b t i o S := by
  obtain ⟨S', h1, h2, h3⟩ := h
  exact ⟨S', h1, ⟨h2.os, h2.tape, h2.output, h2.size, h2.block⟩, h3⟩
theorem Left.drew {w : World} {base b t : Nat} {i o : List Int} {S : Nat → Prop} (h : TapeAt w base b t i o S) : Left w w.drew base b t i o S := (Left.refl (w := w.drew) h).undrew

theorem read_any (w : World) (base b : Nat) (i o : List Int) (S : Nat → Prop) (h : TapeAt w base b 48 i o S) :
    Calls Try.prog 20 #[.pointer (some ⟨b, 0, none⟩)] w fun e w' => e = .returned (.tuple #[.int .i64 (readV i), .int .i64 (readE i)]) ∧ Left w w' base b 48 i.tail o S := by
  have h' := h
  obtain ⟨iv, ov, ht, hb, hbs, hh, hi, ho, hs, hS⟩ := h'
  have hc : w.cell? ⟨b, 0, none⟩ = some iv := by simp [World.cell?, hh]
  go_enter Try.func20, Try.ntmps20
  go_wp2_with fail
  by_cases h0 : i.length = 0
  · obtain rfl : i = [] := List.eq_nil_of_length_eq_zero h0
    refine (remove_none_at b 0 iv 0 base w hc hi).mono ?_
    rintro e w1 ⟨rfl, rfl⟩
    go_wp2
    go_ret2
    exact ⟨by simp [readV, readE], Left.refl h⟩
  · refine (remove_at b 0 #[iv, ov] 48 iv i 0 base w hh rfl hi (row_ne hi hh ht) (by omega)).mono ?_
    rintro e w1 ⟨v', rfl, k1, k2, k3, k4⟩
    go_wp2
    go_ret2
    refine ⟨by simp only [readV, readE, if_neg h0]; rfl, ?_⟩
    have := tape_set0 ht hb hbs hh hi ho hs hS k1 k2 k3 k4
    simpa [Left] using this

theorem unread_any (w : World) (base b : Nat) (i o : List Int) (x : Int) (S : Nat → Prop) (h : TapeAt w base b 48 i o S) (hx : -9223372036854775808 ≤ x ∧ x ≤ 9223372036854775807) :
    Calls Try.prog 23 #[.pointer (some ⟨b, 0, none⟩), .int .i64 x] w fun e w' => e = .returned (.int .i64 (unreadE i)) ∧ Left w w' base b 48 (unreadL i x) o S := by
  have h' := h
  obtain ⟨iv, ov, ht, hb, hbs, hh, hi, ho, hs, hS⟩ := h'
  have hc : w.cell? ⟨b, 0, none⟩ = some iv := by simp [World.cell?, hh]
  go_enter Try.func23, Try.ntmps23
  go_wp2_with fail
  by_cases h0 : 4096 ≤ i.length
  · refine (insert_full_at b 0 iv i 0 x base w hc hi h0).mono ?_
    rintro e w1 ⟨rfl, rfl⟩
    go_wp2
    go_ret
    simp only [unreadE, unreadL, if_pos h0]
    exact ⟨rfl, Left.refl h⟩
  · refine (insert_front_at b 0 #[iv, ov] 48 iv i x base w hh rfl hi (row_ne hi hh ht) hx (by omega) hbs).mono ?_
    rintro e w1 ⟨v', rfl, k1, k2, k3, k4⟩
    go_wp2
    go_ret
    simp only [unreadE, unreadL, if_neg h0]
    exact ⟨rfl, tape_set0 ht hb hbs hh hi ho hs hS k1 k2 k3 k4⟩

theorem write_any (w : World) (base b : Nat) (i o : List Int) (x : Int) (S : Nat → Prop) (h : TapeAt w base b 48 i o S) (hx : -9223372036854775808 ≤ x ∧ x ≤ 9223372036854775807) :
    Calls Try.prog 21 #[.pointer (some ⟨b, 0, none⟩), .int .i64 x] w fun e w' => e = .returned (.int .i64 (unreadE o)) ∧ Left w w' base b 48 i (writeL o x) S := by
  have h' := h
  obtain ⟨iv, ov, ht, hb, hbs, hh, hi, ho, hs, hS⟩ := h'
  obtain ⟨a, cap, rfl⟩ := ho.form
  have hc : w.cell? ⟨b, 1, none⟩ = some (.slice a o.length cap) := by simp [World.cell?, hh]
  go_enter Try.func21, Try.ntmps21
  go_wp2_with fail
  go_still_tail 9, (by kernel_rfl)
  change wpList _ _ _ _ _ w.drew
  have hc2 : w.drew.cell? ⟨b, 1, none⟩ = some (.slice a o.length cap) := hc
  go_wp2_with fail
  by_cases h0 : 4096 ≤ o.length
  · refine (insert_full_at b 1 _ o o.length x base w.drew hc ho h0).mono ?_
    rintro e w1 ⟨rfl, rfl⟩
    go_wp2
    go_ret
    simp only [unreadE, writeL, if_pos h0]
    exact ⟨rfl, Left.drew h⟩
  · refine (insert_end_at b 1 #[iv, _] 48 _ o x base w.drew hh rfl ho (row_ne ho hh ht) hx (by omega) hbs).mono ?_
    rintro e w1 ⟨v', rfl, k1, k2, k3, k4⟩
    clear hc hc2
    go_wp2
    go_ret
    simp only [unreadE, writeL, if_neg h0]
    exact ⟨rfl, Left.undrew (tape_set1 (w := w.drew) ht hb hbs hh hi ho hs hS k1 k2 k3 k4)⟩

theorem unwrite_any (w : World) (base b : Nat) (i o : List Int) (S : Nat → Prop) (h : TapeAt w base b 48 i o S) :
    Calls Try.prog 22 #[.pointer (some ⟨b, 0, none⟩)] w fun e w' => e = .returned (.tuple #[.int .i64 (unwriteV o), .int .i64 (readE o)]) ∧ Left w w' base b 48 i o.dropLast S := by
  have h' := h
  obtain ⟨iv, ov, ht, hb, hbs, hh, hi, ho, hs, hS⟩ := h'
  obtain ⟨a, cap, rfl⟩ := ho.form
  have hc : w.cell? ⟨b, 1, none⟩ = some (.slice a o.length cap) := by simp [World.cell?, hh]
  have hlen := ho.1
  have hsub : -9223372036854775808 ≤ (o.length : Int) - 1 ∧ (o.length : Int) - 1 ≤ 9223372036854775807 := by omega
  by_cases h0 : o.length = 0
  · obtain rfl : o = [] := List.eq_nil_of_length_eq_zero h0
    go_enter Try.func22, Try.ntmps22
    go_wp2_with fail
    go_region_with (go_at_call 26; refine (remove_none_at b 1 _ _ base w.drew hc ho).mono ?_; rintro e w1 ⟨rfl, rfl⟩)
    all_goals
      go_wp2
      go_ret2
      refine ⟨?_, Left.drew h⟩
      have e1 : unwriteV [] = 0 := rfl
      have e2 : readE [] = 17 := rfl
      rw [e1, e2]
      rfl
  · have he : (o.length : Int) - 1 = ((o.length - 1 : Nat) : Int) := by omega
    have hd : o.take (o.length - 1) ++ o.drop (o.length - 1 + 1) = o.dropLast := by
      rw [List.dropLast_eq_take, List.drop_eq_nil_of_le (by omega), List.append_nil]
    have hcon := remove_at b 1 #[iv, .slice a o.length cap] 48 (.slice a o.length cap) o (o.length - 1) base w.drew hh rfl ho (row_ne ho hh ht) (by omega)
    rw [hd, ← he] at hcon
    have HC := Lib.hid hcon
    have HE := Lib.hid he
    clear hcon hd he
    have hw : IntKind.i64.wrap ((o.length : Int) - 1) = (o.length : Int) - 1 := IntWalk.i64_in _ (by omega)
    go_enter Try.func22, Try.ntmps22
    go_wp2_with fail
    go_region_with (go_at_call 26; refine HC.out.mono ?_; rintro e w1 ⟨v', rfl, k1, k2, k3, k4⟩)
    all_goals
      clear hc
      go_wp2
      go_ret2
      refine ⟨?_, Left.undrew (tape_set1 (w := w.drew) ht hb hbs hh hi ho hs hS k1 k2 k3 k4)⟩
      rw [unwriteV, readE, if_neg h0, if_neg h0]
      rfl

theorem in_any (w : World) (base b : Nat) (i o : List Int) (S : Nat → Prop) (h : TapeAt w base b 48 i o S) :
    Calls Try.prog 14 #[.pointer (some ⟨b, 0, none⟩)] w fun e w' => ∃ v, e = .returned v ∧ Own w' w.heap.size 3 v i ∧ Below w.heap.size w w' := by
  obtain ⟨iv, ov, ht, hb, hbs, hh, hi, ho, hs, hS⟩ := h
  have hc : w.cell? ⟨b, 0, none⟩ = some iv := by simp [World.cell?, hh]
  go_enter Try.func14, Try.ntmps14
  go_wp2_with fail
  refine (clone_any iv i w hi.ints).mono ?_
  rintro e w1 ⟨v', rfl, k1, k2⟩
  go_wp2
  go_ret
  exact ⟨_, rfl, k1, k2⟩

theorem out_any (w : World) (base b : Nat) (i o : List Int) (S : Nat → Prop) (h : TapeAt w base b 48 i o S) :
    Calls Try.prog 19 #[.pointer (some ⟨b, 0, none⟩)] w fun e w' => ∃ v, e = .returned v ∧ Own w' w.heap.size 3 v o ∧ Below w.heap.size w w' := by
  obtain ⟨iv, ov, ht, hb, hbs, hh, hi, ho, hs, hS⟩ := h
  have hc : w.cell? ⟨b, 1, none⟩ = some ov := by simp [World.cell?, hh]
  go_enter Try.func19, Try.ntmps19
  go_wp2_with fail
  refine (clone_any ov o w ho.ints).mono ?_
  rintro e w1 ⟨v', rfl, k1, k2⟩
  go_wp2
  go_ret
  exact ⟨_, rfl, k1, k2⟩

end Go.Proofs.Ytpeiajmgkhajoab
