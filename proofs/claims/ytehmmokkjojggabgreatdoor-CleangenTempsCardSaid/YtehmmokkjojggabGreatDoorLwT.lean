/- The law CleangenTemps. -/
import Derived.Test.YtehmmokkjojggabGreatDoorTmpY
import Derived.Test.YtehmmokkjojggabGreatDoorZq28
import Derived.Test.YtehmmokkjojggabGreatDoorPPrc
namespace Go.Proofs.YtehmmokkjojggabGreatDoor
set_option linter.unusedVariables false
set_option linter.unusedSimpArgs false
open Go.RowKit Go.Shelf
attribute [local go_sem] Oper.semAt_some

theorem head_list : headS.toList = [104, 48] := by kernel_rfl
theorem at_map_norm (lib : List Fn) {i : Nat} (hi : i < lib.length) : at' (normL lib) i = normF lib (at' lib i) := by
  simp [at', normL, List.getD_eq_getElem?_getD, List.getElem?_map, List.getElem?_eq_getElem hi]
theorem leave0 {P : Program} {fn : Func} {tmps : Array Value} {R : Ending → World → Prop} {w : World} {v : Value} (hr : (results fn tmps).run P w = .ok v w) (h : R (.returned v) w) : LeavesInM Fence.wide 9 P fn tmps R [] .returning w := ⟨_, hr, h⟩
theorem leave1 {P : Program} {fn : Func} {tmps : Array Value} {R : Ending → World → Prop} {w : World} {v : Value} {D : Nat} (hK : w.heap[D]? = some (.deferred (some []))) (hr : (results fn tmps).run P (w.putObj D (.deferred none)) = .ok v (w.putObj D (.deferred none))) (h : R (.returned v) (w.putObj D (.deferred none))) :
    LeavesInM Fence.wide 9 P fn tmps R [{ target := .collected D, args := #[] }] .returning w := ⟨by simp, .inl ⟨_, _, rfl, run_takeDeferred hK, _, hr, h⟩⟩
/-- what Proc leaves, in one form -/
def PrFacts (g : AFn) (w : World) (pn : ByteArray) (xa : Option Addr) (xl xc : Nat) (bk bn : Int) (bs : ByteArray) (ya : Option Addr) (yn yc : Nat) (er : Int) : Prop :=
  (80 < depthN (procB g) → er = 19 ∧ pn = ⟨#[]⟩ ∧ yn = 0) ∧ (¬ 80 < depthN (procB g) → (2000 < sizeN (procB g) ∨ 8 < (paramsN g).length) → er = 5 ∧ pn = ⟨#[]⟩ ∧ yn = 0) ∧
  (¬ 80 < depthN (procB g) → ¬ (2000 < sizeN (procB g) ∨ 8 < (paramsN g).length) → er = 0 ∧ pn = g.name ∧ xl = (paramsN g).length ∧ RowsAt DclE Any w (.slice xa xl xc) (paramsN g) ∧ NdAt Any w (.agg #[.int .u8 bk, .int .i64 bn, .string bs, .slice ya yn yc]) (procB g))
theorem PrFacts.below {g : AFn} {w w' : World} {pn : ByteArray} {xa : Option Addr} {xl xc : Nat} {bk bn : Int} {bs : ByteArray} {ya : Option Addr} {yn yc : Nat} {er : Int} (h : PrFacts g w pn xa xl xc bk bn bs ya yn yc er) (hb : Below w.heap.size w w') : PrFacts g w' pn xa xl xc bk bn bs ya yn yc er :=
  ⟨h.1, h.2.1, fun a b => by obtain ⟨h1, h2, h3, h4, h5⟩ := h.2.2 a b; exact ⟨h1, h2, h3, h4.stays (Stays.of_below hb), h5.stays (Stays.of_below hb)⟩⟩
theorem pr_facts {g : AFn} {w : World} {e : Ending} {w' : World} (h : ProcPost g w e w') : ∃ (pn : ByteArray) (xa : Option Addr) (xl xc : Nat) (bk bn : Int) (bs : ByteArray) (ya : Option Addr) (yn yc : Nat) (er : Int), e = .returned (.tuple #[.agg #[.string pn, .slice xa xl xc, .int .u8 bk, .int .i64 bn, .string bs, .slice ya yn yc], .int .i64 er]) ∧ PrFacts g w' pn xa xl xc bk bn bs ya yn yc er ∧ Below w.heap.size w w' := by
  obtain ⟨hb, h1, h2, h3⟩ := h
  by_cases q1 : 80 < depthN (procB g)
  · exact ⟨_, _, _, _, _, _, _, _, _, _, _, h1 q1, ⟨fun _ => ⟨rfl, rfl, rfl⟩, fun a => absurd q1 a, fun a => absurd q1 a⟩, hb⟩
  · by_cases q2 : 2000 < sizeN (procB g) ∨ 8 < (paramsN g).length
    · exact ⟨_, _, _, _, _, _, _, _, _, _, _, h2 q1 q2, ⟨fun a => absurd a q1, fun _ _ => ⟨rfl, rfl, rfl⟩, fun _ b => absurd q2 b⟩, hb⟩
    · obtain ⟨a, c, ka, kn, kc, he, hr, hn⟩ := h3 q1 q2
      exact ⟨_, _, _, _, _, _, _, _, _, _, _, he, ⟨fun a => absurd a q1, fun _ b => absurd b q2, fun _ _ => ⟨rfl, rfl, rfl, hr.stays ⟨Nat.le_refl _, fun _ _ _ => ⟨rfl, trivial⟩⟩, hn.stays ⟨Nat.le_refl _, fun _ _ _ => ⟨rfl, trivial⟩⟩⟩⟩, hb⟩

set_option maxRecDepth 100000 in
set_option maxHeartbeats 12800000 in
theorem walk_cleangenTemps (w : World) (ht : Tab w) (lv : Value) (lib : List Fn) (hl : FnsAt Any w lv lib) (k : Int) (hk : 0 ≤ k ∧ k ≤ 255) :
    Calls Tryz.prog 5 #[lv, .int .u8 k] w fun e w' => e = .returned (.bool true) ∧ Below w.heap.size w w' := by
  obtain ⟨hll, la, lc, rfl⟩ := hl.form
  have HL := Lib.hid hl
  have HNM := Lib.hid (normal_any _ lib Any w hl ht)
  have HT := Lib.hid ht
  clear hl ht
  refine (callsIn_wide (n := 9)).1 (callsIn_of_wp_marks Tryz.func5 rfl trivial ?_ rfl)
  simp only [Tryz.ntmps5, List.size_toArray, List.length_cons, List.length_nil, Nat.reduceAdd, Nat.reduceSub, Array.replicate_succ, Array.replicate_zero, List.push_toArray, List.append_toArray, List.nil_append, List.cons_append]
  refine wpIn_wide.2 ?_
  go_wp2_with fail
  refine HNM.out.mono ?_
  intro e w1 hp1
  have hb1 := hp1.1
  have HAW : Hid (∀ w', Below w1.heap.size w1 w' → Calls Tryz.prog 10 #[] w' fun e w2 => e = .returned (.bool true) ∧ Below w'.heap.size w' w2) := Lib.hid (fun w' h => awake_any w' ((HT.out.below hb1).below h))
  rcases hp1.2 with ⟨xa, xn, xc, rfl⟩ | ⟨xa, xc, rfl, hso, hafn⟩
  · clear hp1
    go_wp2_with (go_at_call 10; refine (HAW.out _ (by first | exact Below.refl _ _ | assumption)).mono ?_; rintro e w2 ⟨rfl, hb2⟩)
    (try simp only [Exit.inBlock, Exit.then]); refine leave0 (results_tmp rfl _ _ _) ?_
    exact ⟨rfl, hb1.trans ((‹Below w1.heap.size w1 _›.trans (hb2.mono ‹Below w1.heap.size w1 _›.size)).mono hb1.size)⟩
  · have HSO := Lib.hid hso
    have HAF := Lib.hid hafn
    clear hp1 hso hafn
    by_cases h0 : (normL lib).length = 0
    · have d0 : (((normL lib).length : Int) == 0) = true := by simp [h0]
      go_wp2_with (go_at_call 10; refine (HAW.out _ (by first | exact Below.refl _ _ | assumption)).mono ?_; rintro e w2 ⟨rfl, hb2⟩)
      (try simp only [Exit.inBlock, Exit.then]); refine leave0 (results_tmp rfl _ _ _) ?_
      exact ⟨rfl, hb1.trans ((‹Below w1.heap.size w1 _›.trans (hb2.mono ‹Below w1.heap.size w1 _›.size)).mono hb1.size)⟩
    · have d0 : (((normL lib).length : Int) == 0) = false := by simp [h0]
      · skip
        have hnlen : (normL lib).length = lib.length := by simp [normL]
        have hkm : (k % (lib.length : Int)).toNat < (normL lib).length := by
          have := Int.emod_lt_of_pos k (b := (lib.length : Int)) (by omega)
          omega
        have hkn : (0 : Int) ≤ k % (lib.length : Int) ∧ k % (lib.length : Int) < (lib.length : Int) := ⟨Int.emod_nonneg _ (by omega), Int.emod_lt_of_pos k (by omega)⟩
        have d0' : ((lib.length : Int) == 0) = false := by rw [← hnlen]; exact d0
        have ht : k.tmod (lib.length : Int) = k % (lib.length : Int) := Int.tmod_eq_emod_of_nonneg hk.1
        have hl8 := HSO.out.1
        have hi : (k % (lib.length : Int)).toNat < lib.length := by have := hkn; omega
        have hat : at' (normL lib) (k % (lib.length : Int)).toNat = normF lib (at' lib (k % (lib.length : Int)).toNat) := by
          have e := at_map_norm lib hi
          exact e
        have HGD : Hid (GoodBs lib (at' (normL lib) (k % (lib.length : Int)).toNat).body ∧ sizeBs (at' (normL lib) (k % (lib.length : Int)).toNat).body ≤ 10000 ∧ (at' (normL lib) (k % (lib.length : Int)).toNat).temps.length ≤ 4000 ∧ (at' (normL lib) (k % (lib.length : Int)).toNat).params.length ≤ 8 ∧ TNamed (at' (normL lib) (k % (lib.length : Int)).toNat).temps) := Lib.hid (by
          rw [hat]
          obtain ⟨g1, g2, g3⟩ := norm_good HSO.out.2.2 hi
          have hb := HSO.out.2.1 _ hi
          exact ⟨g1.body, by omega, by omega, g1.plen, g1.temps⟩)
        clear hi hat
        go_wp2_with (go_at_call 10; refine (HAW.out _ (by first | exact Below.refl _ _ | assumption)).mono ?_; rintro e w2 ⟨rfl, hb2⟩; obtain ⟨b, off, cap, pa, pc, ta, tc, ba, bc, he, hb, hcap, c0, c1, c2, c3, c4, c5, hps, htm, hbd, hsn, hsr⟩ := afn_at (HAF.out.stays (Stays.of_below hb2)) hkm; simp only [Value.slice.injEq] at he; obtain ⟨rfl, -, rfl⟩ := he; have HBD := Lib.hid hbd; have HPS := Lib.hid hps; have HTM := Lib.hid htm; have HSR := Lib.hid hsr; clear hps htm hbd hsr; generalize hg : at' (normL lib) (k % (lib.length : Int)).toNat = g at c0 c1 c2 c3 c4 c5 hsn HBD HPS HTM HSR HGD; rw [hnlen] at hcap)
        obtain ⟨W, hW⟩ : ∃ W, W = w2.alloc (.cells #[.string g.name, .slice pa g.params.length pc, .bool g.list, .slice ta g.temps.length tc, .slice ba g.body.length bc, .string g.result] 31) := ⟨_, rfl⟩
        have hB2 : Below w2.heap.size w2 W := by subst hW; exact bel_alloc (Below.refl _ _)
        have HFX : Hid (W.heap[w2.heap.size]? = some (.cells #[.string g.name, .slice pa g.params.length pc, .bool g.list, .slice ta g.temps.length tc, .slice ba g.body.length bc, .string g.result] 31 (0, 0))) := Lib.hid (by subst hW; exact at_new0 _ _)
        have HBG : Hid (Below w.heap.size w W) := Lib.hid ((hb1.trans (hb2.mono hb1.size)).trans (hB2.mono (hb1.trans (hb2.mono hb1.size)).size))
        have hgd := HGD.out
        have hsz : sizeN (procB g) ≤ 1000000 := proc_size g hgd.1 hgd.2.1 hgd.2.2.1
        have HPC := Lib.hid (proc_C g lib pa ta ba pc tc bc W (HPS.out.stays (Stays.of_below hB2)) (HTM.out.stays (Stays.of_below hB2)) (HBD.out.stays (Stays.of_below hB2)) HSR.out hgd.1 hgd.2.1 hgd.2.2.1 hgd.2.2.2.1 hsz)
        have HTW := Lib.hid (HTM.out.stays (Stays.of_below hB2))
        clear hgd hsz HPS HTM HBD
        rw [← hW]
        clear hW
        refine HPC.out.mono ?_
        intro e w3 hp3
        obtain ⟨pn, xa, xl, xc, bk, bn, bs, ya, yn, yc, er, rfl, hpf, hb3⟩ := pr_facts hp3
        have HB3 := Lib.hid (HBG.out.trans (hb3.mono HBG.out.size))
        have HFX3 := Lib.hid (blk_below hb3 HFX.out)
        have HT3 := Lib.hid (HTW.out.stays (Stays.of_below hb3))
        clear hp3 HFX HTW HPC HAF
        by_cases q80 : 80 < depthN (procB g)
        · obtain ⟨rfl, rfl, rfl⟩ := hpf.1 q80
          clear hpf q80 hb3
          go_wp2
          (try simp only [Exit.inBlock, Exit.then]); refine leave0 (results_tmp rfl _ _ _) ?_
          exact ⟨rfl, bel_alloc HB3.out⟩
        · by_cases q20 : 2000 < sizeN (procB g) ∨ 8 < (paramsN g).length
          · obtain ⟨rfl, rfl, rfl⟩ := hpf.2.1 q80 q20
            clear hpf q80 q20 hb3
            go_wp2
            (try simp only [Exit.inBlock, Exit.then]); refine leave0 (results_tmp rfl _ _ _) ?_
            exact ⟨rfl, bel_alloc HB3.out⟩
          · obtain ⟨rfl, rfl, rfl, hxr, hxn⟩ := hpf.2.2 q80 q20
            have hsz : sizeN (procB g) ≤ 2000 := by omega
            obtain ⟨W3, hW3⟩ : ∃ W3, W3 = w3.alloc (.cells #[.string g.name, .slice xa (paramsN g).length xc, .int .u8 bk, .int .i64 bn, .string bs, .slice ya yn yc] 52) := ⟨_, rfl⟩
            obtain ⟨W4, hW4⟩ : ∃ W4, W4 = W3.alloc (.cells #[.slice none 0 0] 23) := ⟨_, rfl⟩
            have hs3 : W3.heap.size = w3.heap.size + 1 := by subst hW3; simp
            have h33 : Below w3.heap.size w3 W3 := by subst hW3; exact bel_alloc (Below.refl _ _)
            have h34 : Below W3.heap.size W3 W4 := by subst hW4; exact bel_alloc (Below.refl _ _)
            have hs4 : W4.heap.size = w3.heap.size + 1 + 1 := by rw [hW4]; simp [hs3]
            have hb4 : W4.heap[w3.heap.size + 1]? = some (.cells #[.slice none 0 0] 23 (0, 0)) := by rw [hW4, ← hs3]; exact at_new0 _ _
            have HWK := Lib.hid (walk_any (procB g) _ Any W4 (by omega) (hxn.stays (Stays.of_below (h33.trans (h34.mono h33.size)))))
            have HF3 := Lib.hid (blk_below h33 HFX3.out)
            have HT4 := Lib.hid (HT3.out.stays (Stays.of_below h33))
            have HBW3 := Lib.hid (HB3.out.trans (h33.mono HB3.out.size))
            have HH := Lib.hid (And.intro hs3 (And.intro hs4 (And.intro h34 hb4)))
            clear hpf q80 q20 hxr hxn hs3 hs4 h34 hb4 h33 hb3 HFX3 HT3 HB3
            go_wp2_with fail
            rw [← hW3, ← hW4]
            clear hW3 hW4
            refine HWK.out.mono ?_
            rintro e w5 ⟨rb, ka, kc, rfl, hrb, hbox, hn5, hb5⟩
            go_wp2_with fail
            have hb5B : w5.heap[w3.heap.size + 1]? = some (.cells #[.slice none 0 0] 23 (0, 0)) := blk_below hb5 HH.out.2.2.2
            have h5s := hb5.size
            have hs4 := HH.out.2.1
            have hb35 : Below W3.heap.size W3 w5 := HH.out.2.2.1.trans (hb5.mono HH.out.2.2.1.size)
            refine wp_range_boxed (n0 := w3.heap.size + 1) (by omega) 12 35 (gf := 54) (lb := #[.pointer (some ⟨rb, 0, none⟩)]) rfl (enters_of Tryz.func54 (by kernel_rfl) rfl)
              (walk_gives (by omega) (by omega) hbox hn5) (LI (w3.heap.size + 1) (w3.heap.size + 1) W3) (Oth (w3.heap.size + 1) NoM) (LI.jm _ _ _) LI.isCl ?start ?apart ?assign ?body ?done
            case start =>
              exact ⟨Nat.le_refl _, by rw [HH.out.1]; exact Nat.le_refl _, by rw [← HH.out.1]; exact hb35, _, hb5B, World.ownsRow_nil _ _ _ _, by simp [Value.ownBlock]⟩
            case apart =>
              rintro b ⟨hb, hlt⟩
              refine ⟨hlt, fun h => ?_⟩
              rcases oth_own hb5B h with rfl | e
              · rcases hb with hb | hb
                · have : W4.heap.size ≤ w3.heap.size + 1 := hb
                  omega
                · omega
              · cases e
            case assign =>
              intro l x W K hK
              simp only [List.setIfInBounds_toArray, List.set_cons_succ, List.set_cons_zero]
              gi_wp2_with fail
              have := hK _ W.heap.size (at_new0 _ _) (bel_alloc (Below.refl _ _))
              simp only [boxed, List.setIfInBounds_toArray, List.set_cons_succ, List.set_cons_zero] at this
              exact this
            case body =>
              intro l pre x W Bx hI hpx hbx
              simp only [boxed, List.setIfInBounds_toArray, List.set_cons_succ, List.set_cons_zero]
              obtain ⟨h1, h2, h3, v, hbB, hr, hne⟩ := id hI
              have hplen : pre.length + 1 ≤ 2000 := by
                have h4 := hpx.length_le
                rw [pre_len, List.length_append, List.length_cons, List.length_nil] at h4
                omega
              have hll := locs_le pre
              obtain ⟨r0, r1, r2, r3⟩ := cells4 hbx
              clear hb5B h5s hs4 hb35
              have HLI := Lib.hid hI
              have HR := Lib.hid hr
              have HBB := Lib.hid hbB
              have HNE := Lib.hid hne
              have cB := cell_blk hbB 0 rfl
              have fB := unfrozen hbB 0
              have hWs : w3.heap.size + 1 ≤ W.heap.size := by have := (Array.getElem?_eq_some_iff.1 hbB).1; omega
              have hB1 : w3.heap.size + 1 < W.heap.size := (Array.getElem?_eq_some_iff.1 hbB).1
              clear hI hr hbB hne hbx h1 h2 h3 hpx
              by_cases h54 : x.2.1.kind = 54
              · have e54 : (x.2.1.kind == 54) = true := by simp [h54]
                by_cases hn : x.2.1.name = headS
                · have en1 : (x.2.1.name.toList == [104, 48]) = true := by rw [hn, head_list]; rfl
                  have HLOC : Hid (isLoc x.2.1 = false) := Lib.hid (by simp [isLoc, hn])
                  clear hn
                  gi_wp2_with fail
                  exact ⟨HLI.out.skip HLOC.out, KM.refl _ _ _⟩
                · have en1 : (x.2.1.name.toList == [104, 48]) = false := beq_eq_false_iff_ne.2 (fun h => hn (toList_inj (h.trans head_list.symm)))
                  have HLOC : Hid (isLoc x.2.1 = true) := Lib.hid (by simp [isLoc, hn, h54])
                  clear hn h54
                  gi_wp2_with (gi_at_builtin; refine wpi_appendV TStr rfl rfl (.tmp 67) (.tmp 70) rfl rfl rfl HR.out rfl (by unfold maxLen; omega) (by omega) hWs ?_; intro v' w1 hown hg hno; have hpu := HLI.out.push HLOC.out HBB.out HR.out HNE.out hown hg hno; have HPU := Lib.hid hpu; have hB1 := (hg.block _ hB1 (fun e => HNE.out e.symm)).trans HBB.out; have cB1 := cell_blk hB1 0 rfl; have fB1 := unfrozen hB1 0; obtain ⟨va', vc', rfl⟩ := row_form hown; clear hpu hB1 hown hg hno)
                  exact ⟨HPU.out.1, HPU.out.2⟩
              · have e54 : (x.2.1.kind == 54) = false := by simp [h54]
                by_cases h55 : x.2.1.kind = 55
                · have e55 : (x.2.1.kind == 55) = true := by simp [h55]
                  clear h54
                  by_cases hn : x.2.1.name = headS
                  · have en1 : (x.2.1.name.toList == [104, 48]) = true := by rw [hn, head_list]; rfl
                    have HLOC : Hid (isLoc x.2.1 = false) := Lib.hid (by simp [isLoc, hn])
                    clear hn
                    gi_wp2_with fail
                    exact ⟨HLI.out.skip HLOC.out, KM.refl _ _ _⟩
                  · have en1 : (x.2.1.name.toList == [104, 48]) = false := beq_eq_false_iff_ne.2 (fun h => hn (toList_inj (h.trans head_list.symm)))
                    have HLOC : Hid (isLoc x.2.1 = true) := Lib.hid (by simp [isLoc, hn, h55])
                    clear hn h55
                    gi_wp2_with (gi_at_builtin; refine wpi_appendV TStr rfl rfl (.tmp 67) (.tmp 70) rfl rfl rfl HR.out rfl (by unfold maxLen; omega) (by omega) hWs ?_; intro v' w1 hown hg hno; have hpu := HLI.out.push HLOC.out HBB.out HR.out HNE.out hown hg hno; have HPU := Lib.hid hpu; have hB1 := (hg.block _ hB1 (fun e => HNE.out e.symm)).trans HBB.out; have cB1 := cell_blk hB1 0 rfl; have fB1 := unfrozen hB1 0; obtain ⟨va', vc', rfl⟩ := row_form hown; clear hpu hB1 hown hg hno)
                    exact ⟨HPU.out.1, HPU.out.2⟩
                · have e55 : (x.2.1.kind == 55) = false := by simp [h55]
                  have HLOC : Hid (isLoc x.2.1 = false) := Lib.hid (by simp [isLoc, h54, h55])
                  clear h54 h55
                  gi_wp2_with fail
                  exact ⟨HLI.out.skip HLOC.out, KM.refl _ _ _⟩
            case done =>
              intro D W hD hI hK
              obtain ⟨-, -, hbl, v, hb, hr, hne⟩ := hI
              rw [← HH.out.1] at hbl
              rw [locs_proc g HGD.out.1 HGD.out.2.2.2.2, List.length_map] at hr
              obtain ⟨va, vc, rfl⟩ := row_form hr
              obtain ⟨f0, f1, f2, f3, f4, f5⟩ := cells6 (blk_below hbl HF3.out)
              have cB := cell_blk hb 0 rfl
              have HKW := Lib.hid hK
              have HR := Lib.hid hr
              have HBL := Lib.hid hbl
              have HBB := Lib.hid hb
              have HBW := Lib.hid (HBW3.out.trans (hbl.mono HBW3.out.size))
              have HTT := Lib.hid (HT4.out.stays (Stays.of_below hbl))
              have HVL : Hid ((validE lib).2 = 0 ∧ Modest lib) := Lib.hid ⟨HSO.out.2.2, fun j hj => by have := HSO.out.2.1 j hj; omega⟩
              have HD : Hid (w3.heap.size + 1 ≤ D ∧ w.heap.size ≤ D) := Lib.hid ⟨hD, by have := HBW3.out.size; have := HH.out.1; omega⟩
              have htl : g.temps.length ≤ 4000 := HGD.out.2.2.1
              clear hK hr hbl hb hne hb5B h5s hs4 hb35 hbox hn5 hb5 hrb
              go_wp2
              go_loopw [81] (fun i wr => ∃ j : Nat, i = .int .i64 j ∧ j ≤ g.temps.length ∧ Below W.heap.size W wr) (fun i _ => g.temps.length - (intOf i).toNat)
              case atStart => exact ⟨0, rfl, Nat.zero_le _, Below.refl _ _⟩
              case round =>
                obtain ⟨j, rfl, hj, hbq⟩ := hrel
                have HBQ := Lib.hid hbq
                clear f0 f1 f2 f3 f4 f5 cB
                by_cases hlt : j < g.temps.length
                · have cB2 := cell_blk (blk_below hbq HBB.out) 0 rfl
                  obtain ⟨gq, cap, cur, he, hcap, hg, hsz, hmx, hbase, htk, hcl⟩ := row_cell (row_below HR.out hbq) (by omega)
                  simp only [Value.slice.injEq] at he
                  obtain ⟨rfl, -, rfl⟩ := he
                  have cv := hcl j (.string (at' g.temps j).name) (by rw [List.map_map, List.getElem?_map, List.getElem?_eq_getElem hlt, at_eq hlt]; rfl)
                  obtain ⟨b8, o8, cap8, he8, hb8, hcap8, _, t0, t1, hsn8⟩ := (HTT.out.stays (Stays.of_below hbq)).at hlt
                  simp only [Value.slice.injEq] at he8
                  obtain ⟨rfl, -, rfl⟩ := he8
                  have i1 : (0 : Int) ≤ (j : Int) := by omega
                  have i2 : (j : Int) < (g.temps.length : Int) := by omega
                  have hgl : gq < wr.heap.size := (Array.getElem?_eq_some_iff.1 hg).1
                  have hBl : w3.heap.size + 1 < wr.heap.size := (Array.getElem?_eq_some_iff.1 (blk_below hbq HBB.out)).1
                  have hXb : Below wr.heap.size wr (wr.alloc (.cells #[.string (at' g.temps j).name, .bool (at' g.temps j).list] 57)) := bel_alloc (Below.refl _ _)
                  have cB3 := (hXb.cell (p := ⟨w3.heap.size + 1, 0, none⟩) hBl).trans cB2
                  have cv3 := (hXb.cell (p := ⟨gq, j, none⟩) hgl).trans cv
                  clear hbq hg hsz hmx hbase htk hcl hb8 hsn8 hXb hgl hBl
                  go_wp2
                  go_quiet (fail)
                  go_wp2
                  exact ⟨⟨j + 1, by go_num, by omega, below_drewN (bel_alloc HBQ.out) _⟩, by simp [intOf]; omega⟩
                · obtain rfl : j = g.temps.length := by omega
                  have hlt3 : ¬ (g.temps.length : Int) < (g.temps.length : Int) := by omega
                  have HBF := Lib.hid (HBW.out.trans (hbq.mono HBW.out.size))
                  have HVA := Lib.hid (valid_any _ lib Any wr (HL.out.stays (Stays.of_below HBF.out)) HVL.out.2)
                  clear hbq
                  go_wp2_with fail
                  refine HVA.out.mono ?_
                  rintro e w9 ⟨rfl, hb9⟩
                  have HB9 := Lib.hid hb9
                  have dV : ((validE lib).2 == 0) = true := by rw [HVL.out.1]; rfl
                  clear hb9
                  go_wp2
                  (try simp only [Exit.inBlock, Exit.then])
                  refine leave1 (blk_below HB9.out (blk_below HBQ.out HKW.out)) (results_tmp rfl _ _ _) ?_
                  exact ⟨rfl, (HBF.out.trans (HB9.out.mono HBF.out.size)).trans (put_below w9 _ HD.out.2)⟩
end Go.Proofs.YtehmmokkjojggabGreatDoor
