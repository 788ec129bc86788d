/- TapeUndoes: for every input, output and list of operations the law returns true: undoing all successful operations in reverse order restores the input and the output. No condition. -/
import Derived.Test.YtpeiajmgkhajoabTapeI
import Derived.Test.YtpeiajmgkhajoabTapeP
namespace Go.Proofs.Ytpeiajmgkhajoab
open Go.ChangeShapes Go.WideShapes Go.ChangeAt Go.RowKit
set_option linter.unusedVariables false

theorem TO : RowT Try.prog 32 37 (.agg #[.int .i64 0, .int .i64 0]) 2 16 := ⟨Try.underlying32, by kernel_rfl⟩

def opCells (l : List (Int × Int)) : List Value := l.flatMap fun q => [.int .i64 q.1, .int .i64 q.2]
theorem opCells_len (l : List (Int × Int)) : (opCells l).length = l.length * 2 := by
  induction l with
  | nil => rfl
  | cons q l ih => simp only [opCells, List.flatMap_cons, List.length_append, List.length_cons, List.length_nil] at ih ⊢; omega
theorem opCells_cons (q : Int × Int) (l : List (Int × Int)) : opCells (q :: l) = .int .i64 q.1 :: .int .i64 q.2 :: opCells l := rfl
theorem opCells_at : ∀ (l : List (Int × Int)) (j : Nat), j < l.length → (opCells l)[j * 2]? = some (.int .i64 (opAt l j).1) ∧ (opCells l)[j * 2 + 1]? = some (.int .i64 (opAt l j).2)
  | q :: l, 0, _ => ⟨rfl, rfl⟩
  | q :: l, j + 1, h => by
    have := opCells_at l j (by simpa using h)
    rw [opCells_cons, show (j + 1) * 2 = j * 2 + 1 + 1 by omega]
    simpa [opAt] using this

/-- a slice of operations of the call's own -/
def OwnOps (w : World) (base : Nat) (v : Value) (l : List (Int × Int)) : Prop := (∀ q ∈ l, In64 q.1 ∧ In64 q.2) ∧ w.ownsRow base 37 2 v l.length (opCells l)

theorem OwnOps.at {w : World} {base : Nat} {v : Value} {l : List (Int × Int)} (h : OwnOps w base v l) {j : Nat} (hj : j < l.length) :
    ∃ g cap, v = .slice (some ⟨g, 0, none⟩) l.length cap ∧ w.cell? ⟨g, j * 2, none⟩ = some (.int .i64 (opAt l j).1) ∧ w.cell? ⟨g, j * 2 + 1, none⟩ = some (.int .i64 (opAt l j).2) ∧ In64 (opAt l j).2 := by
  obtain ⟨h1, h2⟩ := h
  have h2' := h2
  obtain ⟨h0, ⟨rfl, hn⟩ | ⟨g, cap, cur, rfl, hg, hh, hn, hm, hs, ht⟩⟩ := h2
  · omega
  · have hc := opCells_at l j hj
    have hl := opCells_len l
    refine ⟨g, cap, rfl, ?_, ?_, (h1 _ (opAt_mem hj)).2⟩
    · rw [h2'.cellAt (j * 2) (by omega)]
      exact hc.1
    · rw [h2'.cellAt (j * 2 + 1) (by omega)]
      exact hc.2

theorem OwnOps.form {w : World} {base : Nat} {v : Value} {l : List (Int × Int)} (h : OwnOps w base v l) : ∃ a c, v = .slice a l.length c := by
  obtain ⟨_, h0, ⟨rfl, hn⟩ | ⟨g, cap, cur, rfl, _⟩⟩ := h
  · exact ⟨none, 0, by rw [hn]⟩
  · exact ⟨_, _, rfl⟩

theorem OwnOps.keeps {w w' : World} {base : Nat} {v : Value} {l : List (Int × Int)} {S : Nat → Prop} (h : OwnOps w base v l) (hk : Keeps w w' S) (hs : ∀ k, v.ownBlock = some k → ¬ S k) : OwnOps w' base v l := by
  refine ⟨h.1, h.2.1, ?_⟩
  rcases h.2.2 with ⟨rfl, hn⟩ | ⟨g, cap, cur, rfl, hbg, hg, hrest⟩
  · exact .inl ⟨rfl, hn⟩
  · refine .inr ⟨g, cap, cur, rfl, hbg, ?_, hrest⟩
    have hgl : g < w.heap.size := by rw [Array.getElem?_eq_some_iff] at hg; exact hg.1
    exact (hk.block g hgl (hs g rfl)).trans hg
theorem OwnOps.below {w w' : World} {base : Nat} {v : Value} {l : List (Int × Int)} (h : OwnOps w base v l) (hb : Below w.heap.size w w') : OwnOps w' base v l := h.keeps (Keeps.of_below (fun _ => False) hb) (fun _ _ e => e)

/-- a tape and what undoes it -/
def UndoRel (B : Nat) (w wr : World) (base b : Nat) (I O : List Int) (vu : Value) (k : Nat) : Prop :=
  ∃ S i o ul, TapeAt wr base b 48 i o S ∧ OwnOps wr B vu ul ∧ (∀ k, vu.ownBlock = some k → ¬ S k) ∧ Back ul.reverse i o I O ∧ i.length ≤ 4096 ∧ o.length ≤ 4096 ∧ ul.length ≤ k ∧ Below B w wr

def UndoRel2 (B : Nat) (w wr : World) (base b : Nat) (I O : List Int) (vu : Value) (ul : List (Int × Int)) (m : Nat) : Prop :=
  m ≤ ul.length ∧ ∃ S i o, TapeAt wr base b 48 i o S ∧ OwnOps wr B vu ul ∧ (∀ k, vu.ownBlock = some k → ¬ S k) ∧ Back (ul.take m).reverse i o I O ∧ Below B w wr

/-- a step of the tape, with a slice of operations beside it -/
theorem undo_do {B : Nat} {w wr w' : World} {base b : Nat} {i o i1 o1 : List Int} {S : Nat → Prop} {vu : Value} {ul : List (Int × Int)} (h1 : TapeAt wr base b 48 i o S) (h2 : OwnOps wr B vu ul) (h3 : ∀ k, vu.ownBlock = some k → ¬ S k) (h4 : Below B w wr) (h5 : B ≤ base)
    (hl : Left wr w' base b 48 i1 o1 S) : ∃ S', TapeAt w' base b 48 i1 o1 S' ∧ OwnOps w' B vu ul ∧ (∀ k, vu.ownBlock = some k → ¬ S' k) ∧ Below B w w' ∧ wr.heap.size ≤ w'.heap.size ∧ ∀ p, p.block < wr.heap.size → ¬ S p.block → w'.cell? p = wr.cell? p := by
  have hbl := hl.below (fun k hk => (h1.base_le k hk).1) h1.le
  obtain ⟨S', t1, k1, g1⟩ := hl
  refine ⟨S', t1, h2.keeps k1 h3, fun k hk hs => ?_, h4.trans (hbl.mono h5), k1.size, fun p hp hn => by simp only [World.cell?, k1.block p.block hp hn]⟩
  rcases g1 k hs with h | h
  · exact h3 k hk h
  · have := (h2.2.lt k hk).2; omega

/-- one operation more to undo -/
theorem undo_snoc {B : Nat} {w wr w1 : World} {base b : Nat} {i o : List Int} {S : Nat → Prop} {vu v' : Value} {ul : List (Int × Int)} {q : Int × Int} (h1 : TapeAt wr base b 48 i o S) (h2 : OwnOps wr B vu ul) (h3 : ∀ k, vu.ownBlock = some k → ¬ S k) (h4 : Below B w wr) (hB : B ≤ w.heap.size)
    (hq : In64 q.1 ∧ In64 q.2) (hr : w1.ownsRow B 37 2 v' (ul.length + 1) (opCells ul ++ [.int .i64 q.1, .int .i64 q.2])) (hg : (wr.alloc (.cells #[.int .i64 q.1, .int .i64 q.2] 37)).grownBy w1 vu.ownBlock)
    (hn : NewOr (wr.alloc (.cells #[.int .i64 q.1, .int .i64 q.2] 37)) vu v') :
    TapeAt w1 base b 48 i o S ∧ OwnOps w1 B v' (ul ++ [q]) ∧ (∀ k, v'.ownBlock = some k → ¬ S k) ∧ Below B w w1 := by
  have hg' := grown_alloc hg
  have hz := h4.size
  refine ⟨h1.keeps (T := fun k => vu.ownBlock = some k) ⟨hg'.os, hg'.tape, hg'.output, hg'.size, fun k hk hs => hg'.block k hk (fun e => hs e.symm)⟩ (fun k hS e => h3 k e hS), ⟨fun x hx => ?_, ?_⟩, fun k hk hs => ?_, h4.grown hg' (by omega) (fun k hk => (h2.2.lt k hk).1)⟩
  · rcases List.mem_append.1 hx with hx | hx
    · exact h2.1 x hx
    · simp at hx; subst hx; exact hq
  · have e : opCells (ul ++ [q]) = opCells ul ++ [.int .i64 q.1, .int .i64 q.2] := by simp [opCells]
    rw [e]; simpa using hr
  · rcases hn k hk with h | h
    · exact h3 k h hs
    · have := (h1.base_le k hs).2; simp at h; omega

theorem inv_in64 (k : Int) : In64 (invK k) := by
  unfold invK
  repeat' split
  all_goals exact ⟨by omega, by omega⟩

theorem back_take {ul : List (Int × Int)} {m : Nat} {i o I O : List Int} (hm : m < ul.length) (h : Back (ul.take (m + 1)).reverse i o I O) :
    opE (opAt ul m).1 i o = 0 ∧ Back (ul.take m).reverse (opI (opAt ul m).1 (opAt ul m).2 i) (opO (opAt ul m).1 (opAt ul m).2 o) I O := by
  have e : ul.take (m + 1) = ul.take m ++ [opAt ul m] := by rw [List.take_add_one]; simp [opAt, hm]
  rw [e, List.reverse_append] at h
  exact h

set_option maxHeartbeats 3200000 in
theorem walk_tapeUndoes (w : World) (v : Value) (I : List Int) (hv : RInts w v I) (u : Value) (O : List Int) (hu : RInts w u O) (x : Value) (l : List (Int × Int)) (hx : OpsAt w x l) :
    Calls Try.prog 5 #[v, u, x] w fun e w' => e = .returned (.bool true) ∧ Below w.heap.size w w' := by
  cases hgr : (decide (5000 < I.length) || (decide (5000 < O.length) || decide (60 < l.length))) with
  | true =>
    have HG := Lib.hid hgr
    clear hgr
    go_enter Try.func5, Try.ntmps5
    go_wp2_with fail
    refine (awake_any w).mono ?_
    rintro e w1 ⟨rfl, hb1⟩
    go_wp2_with fail
    refine (great_any v u x I O l w1 (hv.1.below hb1) (hu.1.below hb1) (hx.below hb1)).mono ?_
    rintro e w2 ⟨rfl, rfl⟩
    rw [HG.out]
    go_wp2
    go_ret
    exact ⟨rfl, hb1⟩
  | false =>
    have hl60 : l.length ≤ 60 := by simp at hgr; omega
    have HG := Lib.hid hgr
    clear hgr
    by_cases hfull : 4096 < I.length ∨ 4096 < O.length
    · have HF := Lib.hid hfull
      clear hfull
      go_enter Try.func5, Try.ntmps5
      go_wp2_with fail
      refine (awake_any w).mono ?_
      rintro e w1 ⟨rfl, hb1⟩
      have hv1 := hv.below hb1
      have hu1 := hu.below hb1
      have hx1 := hx.below hb1
      go_wp2_with fail
      refine (great_any v u x I O l w1 hv1.1 hu1.1 hx1).mono ?_
      rintro e w2 ⟨rfl, rfl⟩
      rw [HG.out]
      go_wp2_with fail
      refine (new_full v u I O w1 hv1.1 hu1.1 HF.out).mono ?_
      rintro e w2 ⟨rfl, rfl⟩
      go_wp2
      go_ret
      exact ⟨rfl, hb1⟩
    · have hi4 : I.length ≤ 4096 := by omega
      have ho4 : O.length ≤ 4096 := by omega
      clear hfull
      go_enter Try.func5, Try.ntmps5
      go_wp2_with fail
      refine (awake_any w).mono ?_
      rintro e w1 ⟨rfl, hb1⟩
      have hv1 := hv.below hb1
      have hu1 := hu.below hb1
      have hx1 := hx.below hb1
      go_wp2_with fail
      refine (great_any v u x I O l w1 hv1.1 hu1.1 hx1).mono ?_
      rintro e w2 ⟨rfl, rfl⟩
      rw [HG.out]
      go_wp2_with fail
      refine (new_any v u I O w1 hv1.1 hu1.1 hi4 ho4).mono ?_
      rintro e w2 ⟨b, S, rfl, ht, hb2⟩
      have hz1 := hb1.size
      have hR : UndoRel w.heap.size w w2 w1.heap.size b I O (.slice none 0 0) 0 :=
        ⟨S, I, O, [], ht, ⟨fun q hq => by simp at hq, World.ownsRow_nil _ _ _ _⟩, fun k hk => by simp [Value.ownBlock] at hk, ⟨rfl, rfl⟩, hi4, ho4, Nat.le_refl _, hb1.trans (hb2.mono hz1)⟩
      obtain ⟨a, cap, rfl⟩ := hx1.form
      clear hv1 hu1 hx1 ht hb1 hb2 hi4 ho4
      go_wp2_with fail
      go_loopw [33, 9] (fun j vu wr => ∃ k : Nat, j = .int .i64 k ∧ k ≤ l.length ∧ UndoRel w.heap.size w wr w1.heap.size b I O vu k) (fun j _ _ => l.length - (intOf j).toNat)
      case atStart => exact ⟨0, rfl, Nat.zero_le _, hR⟩
      case round =>
        clear hR HG
        rename_i vu
        obtain ⟨k, rfl, hk, S, i, o, ul, h1, h2, h3, hbk, hi4, ho4, hul, h4⟩ := hrel
        obtain ⟨au, cu, rfl⟩ := h2.form
        have hxr := hx.below h4
        have hzr := h4.size
        by_cases hlt : k < l.length
        · obtain ⟨_, hfits, a0, c0, e0, hcell⟩ := id hxr
          simp only [Value.slice.injEq] at e0
          obtain ⟨rfl, -, rfl⟩ := e0
          obtain ⟨g, off, rfl, hgl, hc⟩ := hcell (by omega)
          obtain ⟨hc0, hc1⟩ := hc k hlt
          have hin := hfits _ (opAt_mem hlt)
          obtain ⟨⟨kk, nn⟩, hop⟩ : ∃ q : Int × Int, q = opAt l k := ⟨_, rfl⟩
          rw [← hop] at hc0 hc1 hin
          simp only at hc0 hc1 hin
          have hn64 := hin.2
          have hund := Lib.hid (op_undo kk nn i o hi4 ho4)
          have hfail := Lib.hid (op_fail kk nn i o)
          have hlen := op_len kk nn i o hi4 ho4
          have hfit := h1.fits
          have HI := Lib.hid (fits_inv (k := kk) hfit.1 hfit.2)
          have hA : Below wr.heap.size wr (wr.alloc (.cells #[.int .i64 kk, .int .i64 nn] 37)) := (Below.refl _ _).alloc (Nat.le_refl _) _
          have hS := h1.base_le
          clear hc hcell hfits hop hin hfit
          go_wp2_with fail
          refine (do_any _ w1.heap.size b i o kk nn S (h1.alloc _) hn64).mono ?_
          rintro e w3 ⟨rfl, hl⟩
          obtain ⟨S3, t3, u3, d3, b3, z3, hcl⟩ := undo_do (h1.alloc _) (h2.below hA) h3 (h4.alloc hzr _) hz1 hl
          have hp0 : w3.cell? ⟨wr.heap.size, 0, none⟩ = some (.int .i64 kk) := (hcl ⟨wr.heap.size, 0, none⟩ (by simp) (fun hk => by have := (hS _ hk).2; simp at this)).trans (by simp)
          have hp1 : w3.cell? ⟨wr.heap.size, 1, none⟩ = some (.int .i64 nn) := (hcl ⟨wr.heap.size, 1, none⟩ (by simp) (fun hk => by have := (hS _ hk).2; simp at this)).trans (by simp)
          have hz3 := b3.size
          simp at z3
          clear hcl hl h1 h2 h3 h4 hS hc0 hc1 hA hxr hzr
          by_cases hok : opE kk i o = 0
          · obtain ⟨u1, u2, u3', u4⟩ := hund.out hok
            have hb' : Back ((ul ++ [(invK kk, invN kk (opV kk i o))]).reverse) (opI kk nn i) (opO kk nn o) I O := by
              rw [List.reverse_append]
              refine ⟨u1, ?_⟩
              show Back ul.reverse (opI (invK kk) (invN kk (opV kk i o)) (opI kk nn i)) (opO (invK kk) (invN kk (opV kk i o)) (opO kk nn o)) I O
              rw [u2, u3']; exact hbk
            have HOK := Lib.hid hok
            have d0 : (opE kk i o == 0) = true := by simp [hok]
            clear hok u1 u2 u3' u4 hbk hund hfail
            go_wp2_with fail
            refine (inverse_any w3 kk nn (opV kk i o)).mono ?_
            rintro e w4 ⟨rfl, hb4⟩
            have t4 := t3.below hb4
            have u4 := u3.below hb4
            have b4 : Below w.heap.size w w4 := b3.trans (hb4.mono hz3)
            have hz4 := b4.size
            clear t3 u3 b3 hb4 hp0 hp1
            have hrow : (w4.alloc (.cells #[.int .i64 (invK kk), .int .i64 (invN kk (opV kk i o))] 37)).ownsRow w.heap.size 37 2 (.slice au ul.length cu) ul.length (opCells ul) := u4.2.alloc _
            have hnews : ∀ j u, [Value.int .i64 (invK kk), Value.int .i64 (invN kk (opV kk i o))][j]? = some u → (w4.alloc (.cells #[.int .i64 (invK kk), .int .i64 (invN kk (opV kk i o))] 37)).cell? ((⟨w4.heap.size, 0, none⟩ : Addr).add j) = some u := by
              intro j u hj
              match j, hj with
              | 0, hj => simp at hj; subst hj; simp [Addr.add]
              | 1, hj => simp at hj; subst hj; simp [Addr.add]
            go_wp2_with (at_builtin; refine wpl_append TO rfl (by decide) rfl (.tmp 45) (.tmp 49) rfl rfl rfl hrow (.inr ⟨_, _, rfl, hnews⟩) rfl (by simp [Value.oneCell']) (by unfold maxLen; omega) (by omega) (by simp; omega) ?_)
            intro v' w5 hr5 hg5 hn5
            obtain ⟨t5, u5, d5, b5⟩ := undo_snoc (q := (invK kk, invN kk (opV kk i o))) t4 u4 d3 b4 (Nat.le_refl _) ⟨inv_in64 kk, HI.out⟩ hr5 hg5 hn5
            have hR : UndoRel w.heap.size w w5 w1.heap.size b I O v' (k + 1) := ⟨S3, _, _, _, t5, u5, d5, hb', hlen.1, hlen.2, by simp; omega, b5⟩
            clear hr5 hg5 hn5 t5 u5 d5 b5 hb' t4 u4 d3 b4 hrow hnews hlen
            go_wp2
            go_roundw
            case rel => exact ⟨k + 1, by go_num, by omega, hR⟩
            case measure => simp [intOf]; omega
          · have hz := hfail.out hok
            have d0 : (opE kk i o == 0) = false := by simpa using hok
            have hR : UndoRel w.heap.size w w3 w1.heap.size b I O (.slice au ul.length cu) (k + 1) := ⟨S3, _, _, ul, t3, u3, d3, by rw [hz.2.1, hz.2.2]; exact hbk, hlen.1, hlen.2, by omega, b3⟩
            clear hz hok t3 u3 d3 b3 hp0 hp1 hund hfail hlen hbk
            go_wp2
            go_roundw
            case rel => exact ⟨k + 1, by go_num, by omega, hR⟩
            case measure => simp [intOf]; omega
        · have d1 : decide (k < l.length) = false := by simpa using hlt
          have hR : UndoRel2 w.heap.size w wr w1.heap.size b I O (.slice au ul.length cu) ul ul.length := ⟨Nat.le_refl _, S, i, o, h1, h2, h3, by rw [List.take_length]; exact hbk, h4⟩
          clear h1 h2 h3 hbk h4 hxr
          go_wp2_with fail
          go_loopw [14] (fun x wr => ∃ m : Nat, x = .int .i64 ((m : Int) - 1) ∧ UndoRel2 w.heap.size w wr w1.heap.size b I O (.slice au ul.length cu) ul m) (fun x _ => (intOf x + 1).toNat)
          case atStart => exact ⟨ul.length, rfl, hR⟩
          case round =>
            clear hR
            obtain ⟨m, hxm, hm, S, i, o, h1, h2, h3, hbk, h4⟩ := hrel
            have hzr := h4.size
            match m, hxm, hm, hbk with
            | 0, hxm, hm, hbk =>
              obtain rfl := hxm
              obtain ⟨rfl, rfl⟩ := hbk
              have hv3 := hv.below h4
              have hu3 := hu.below h4
              rw [show (((0 : Nat) : Int) - 1) = -1 from rfl]
              go_wp2_with fail
              refine (same_any _ _ b _ _ _ _ S _ _ h1 hv3.1 hu3.1).mono ?_
              rintro e w8 ⟨rfl, hb8⟩
              go_wp2
              go_ret
              exact ⟨by simp, h4.trans (hb8.mono hzr)⟩
            | j + 1, hxm, hm, hbk =>
              obtain rfl := hxm
              rw [show (((j + 1 : Nat) : Int) - 1) = (j : Int) by omega]
              obtain ⟨e1, hbk⟩ := back_take (by omega) hbk
              obtain ⟨g, cap', he, hc0, hc1, hn64⟩ := h2.at (j := j) (by omega)
              simp only [Value.slice.injEq] at he
              obtain ⟨rfl, -, rfl⟩ := he
              have E1 := Lib.hid e1
              clear e1
              have hb0 : (0 : Int) ≤ (j : Int) := by omega
              have hb1 : (j : Int) < (ul.length : Int) := by omega
              go_wp2_with fail
              refine (do_any _ w1.heap.size b i o (opAt ul j).1 (opAt ul j).2 S h1 hn64).mono ?_
              rintro e w3 ⟨rfl, hl⟩
              rw [E1.out]
              obtain ⟨S3, t3, u3, d3, b3, z3, hcl⟩ := undo_do h1 h2 h3 h4 hz1 hl
              have hR : UndoRel2 w.heap.size w w3 w1.heap.size b I O (.slice (some ⟨g, 0, none⟩) ul.length cu) ul j := ⟨by omega, S3, _, _, t3, u3, d3, hbk, b3⟩
              clear hcl hl h1 h2 h3 h4 t3 u3 d3 b3 hbk hc0 hc1
              go_wp2
              go_roundw
              case rel => exact ⟨j, rfl, hR⟩
              case measure => simp [intOf]

set_option maxRecDepth 100000 in
theorem lifted_tapeUndoes (os : Os) (started : os.Started) (H : Type) (enc : TypeId × Value → H) :
    ReturnsInHanded {} Try.checked os 5 .any (Rows.tapeUndoesSpec.pre6 enc Try.prog Try.f5 Rows.tapeUndoesRow.domain false) (Rows.tapeUndoesSpec.post enc Try.prog Try.f5 false true false false) := by
  refine returnsInHanded_of_change_sized (C := Try.checked) own started (by kernel_rfl) Try.func5
    (ChangeSpec.witness6 (enc := enc) (C := Try.checked) false ⟨#[], #[.slice none 0 0, .slice none 0 0, .slice none 0 0], []⟩ 8 (by kernel_rfl) (by kernel_rfl) (by kernel_rfl) (by kernel_rfl)) ?_
  intro W base args ds gs before hval0 hW hcnd hsz0 _
  have hsz : (DataW.weightsEach Try.prog (Try.f5.params.toList ++ Rows.tapeUndoesSpec.plain.varTypes Try.prog) (ds ++ gs)).all (· ≤ reachBytes) = true := hsz0
  have hval : ∀ (j : Nat) t v, Try.f5.params[j]? = some t → args[j]? = some v → Value.okWide Try.prog W .any base t v := hval0
  have hW' := hW
  obtain ⟨p, q, hA0, hV, rfl, hfz, hnd⟩ := hW
  have hA : DataW.TrodAll enc Try.prog W 0 (fun _ => true) true Try.f5.params.toList args.toList ds p := hA0
  rw [Try.params5] at hA hval hsz
  obtain ⟨v0, vs0, d0, ds0, p0, q0, hargs, rfl, rfl, h0, r0⟩ := trodAll_cons hA
  obtain ⟨v1, vs1, d1, ds1, p1, q1, rfl, rfl, rfl, h1, r1⟩ := trodAll_cons r0
  obtain ⟨v2, vs2, d2, ds2, p2, q2, rfl, rfl, rfl, h2, r2⟩ := trodAll_cons r1
  obtain ⟨rfl, rfl, rfl⟩ := trodAll_nil r2
  obtain rfl : args = #[v0, v1, v2] := by cases args; simp_all
  obtain ⟨rfl, rfl⟩ := trodVars_none hV
  have k0 := h0
  have lt0 : ∀ x ∈ p0, x.block < W.heap.size := by obtain ⟨m, hm⟩ := k0; exact DataW.trod_lt m _ _ _ hm
  obtain ⟨l0, i0⟩ := openRInts (hval 0 22 v0 rfl rfl) h0 (fun elems spare e => sized_slice hsz (j := 0) rfl (by rw [e]; rfl) Try.underlying22)
  have k1 := h1
  have lt1 : ∀ x ∈ p1, x.block < W.heap.size := by obtain ⟨m, hm⟩ := k1; exact DataW.trod_lt m _ _ _ hm
  obtain ⟨l1, i1⟩ := openRInts (hval 1 22 v1 rfl rfl) h1 (fun elems spare e => sized_slice hsz (j := 1) rfl (by rw [e]; rfl) Try.underlying22)
  have k2 := h2
  have lt2 : ∀ x ∈ p2, x.block < W.heap.size := by obtain ⟨m, hm⟩ := k2; exact DataW.trod_lt m _ _ _ hm
  obtain ⟨l2, i2⟩ := openOps (hval 2 32 v2 rfl rfl) h2 (fun elems spare e => sized_slice hsz (j := 2) rfl (by rw [e]; rfl) Try.underlying32)
  clear hA0 hval0
  refine (walk_tapeUndoes W v0 l0 i0 v1 l1 i1 v2 l2 i2).mono fun e W' ⟨he, bel⟩ => ?_
  subst he
  exact ⟨_, rfl, _, _, _, [], _, [], hW', trodAll_mk1 (shut_bool Try.underlying4 _), (trodAll_cons_mk (Below.trod laidOut (by kernel_rfl) (of_decide_eq_true (by kernel_rfl)) k0 bel lt0) (trodAll_cons_mk (Below.trod laidOut (by kernel_rfl) (of_decide_eq_true (by kernel_rfl)) k1 bel lt1) (trodAll_cons_mk (Below.trod laidOut (by kernel_rfl) (of_decide_eq_true (by kernel_rfl)) k2 bel lt2) trodAll_mk0))), rfl, bel.frame _, fun h => by cases h⟩

/-- the given statement -/
theorem proved_tapeUndoes : Rows.TapeUndoesSaid :=
  OpenClaim.holds_of_wide 5 Try.f5 rfl rfl rfl rfl rfl rfl rfl ⟨rfl, rfl, rfl, rfl, rfl⟩ rfl rfl rfl rfl rfl (by kernel_rfl) Try.func5 (by kernel_rfl)
    (of_decide_eq_true (by kernel_rfl)) (by unfold Func.isWrapper; first | (rw [if_pos (by decide +kernel)]; kernel_rfl) | (rw [if_neg (by decide +kernel)]; exact ⟨rfl, rfl⟩))
    (fun os started H enc _ => lifted_tapeUndoes os started H enc)
#print axioms proved_tapeUndoes

end Go.Proofs.Ytpeiajmgkhajoab
