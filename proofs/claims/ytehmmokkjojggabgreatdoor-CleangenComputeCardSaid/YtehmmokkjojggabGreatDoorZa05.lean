/- Contracts and plain lemmas for the law (AnfO, AnfP, AnfQ, AnfR, AnfS, PAnf2, AnfT, CgA): no statement of the seat is proved here. -/
import Derived.Test.YtehmmokkjojggabGreatDoorZa04
import Derived.Deep.DeepCutAuto
import Derived.WalkSpells
/- The visitor of package anf: choice. -/
namespace Go.Proofs.YtehmmokkjojggabGreatDoor
set_option linter.unusedVariables false
open Go.RowKit

theorem expr_if_eq (lib : List Fn) (n : Nd) (env : Env) (ts : List Par) (h : n.kind = 83) (hk : n.kids.length = 3) {x y z : XR} {ts1 ts2 : List Par} (hx : exprN lib (at' n.kids 0) env ts = x)
    (hy : exprN lib (at' n.kids 1) x.env (x.ts ++ [⟨tname x.ts.length, false⟩]) = y) (h1 : setTy y.ts x.ts.length y.par.list = ts1) (hz : exprN lib (at' n.kids 2) y.env ts1 = z) (h2 : setTy z.ts x.ts.length z.par.list = ts2) :
    exprN lib n env ts = ⟨ts2, x.bs ++ [.mk (at' ts2 x.ts.length).name (at' ts2 x.ts.length).list 83 0 ByteArray.empty [x.par.name] (y.bs ++ [varB (at' ts1 x.ts.length).name (at' ts1 x.ts.length).list y.par.name]) (z.bs ++ [varB (at' ts2 x.ts.length).name (at' ts2 x.ts.length).list z.par.name])], at' ts2 x.ts.length, z.env⟩ := by
  subst h2 hz h1 hy hx
  cases n with
  | mk k num name kids =>
    simp only [Nd.kind] at h
    simp only [Nd.kids] at hk ⊢
    match kids, hk with
    | [a, b, c], _ =>
      conv => lhs; unfold exprN
      rw [if_neg (by omega), if_neg (by omega), if_pos h]; rfl
theorem formed_if {n : Nd} (h : formedN n = true) (hk : n.kind = 83) : n.kids.length = 3 := by
  rw [formedN_eq, Bool.and_eq_true] at h
  have := h.1
  rw [hk] at this
  simp [formB] at this
  exact this.2

/-- behind the condition of an if -/
def ChA (C : VC) (pb po : Nat) (A : Nat → Prop) (w : World) (tv bv c4 : Value) (bs : List Bd) (N : Nat) (nv : Value) (n : Nd) (X : XR) (s7 : Value) (wx : World) : Prop :=
  ∃ g7 gs A1 tv1 bv1 c41, s7 = .pointer (some ⟨g7, 0, none⟩) ∧ St C pb po A1 wx tv1 bv1 c41 X.ts (bs ++ X.bs) X.env N ∧ Step C pb A w tv bv c4 A1 wx tv1 bv1 c41 ∧
    Locs C pb A1 tv1 bv1 wx [(g7, .cells #[.string ⟨#[]⟩, .bool false, .int .u8 83, .int .i64 0, .string ⟨#[]⟩, .slice (some ⟨gs, 0, none⟩) 1 1, .slice none 0 0, .slice none 0 0] 88 (0, 0)), (w.heap.size + 1 + 1, .cells #[.string ⟨#[]⟩, .bool false] 57 (0, 0)),
      (w.heap.size + 1, .cells #[.int .u8 n.kind, .int .i64 n.num, .string n.name, nv] 35 (0, 0)), (w.heap.size, .cells #[.pointer (some ⟨C.bV, 0, none⟩)] 161 (0, 0))] ∧ StrsAt A1 wx (.slice (some ⟨gs, 0, none⟩) 1 1) [X.par.name] ∧ w.heap.size + 1 + 1 < g7

/-- a literal row of one name that stays from now on -/
theorem lit_shut {C : VC} {pb po N : Nat} {A A0 : Nat → Prop} {w w0 : World} {tv bv c4 tv0 bv0 c40 : Value} {ts : List Par} {bs : List Bd} {env : Env} {L : List (Nat × Obj)} {s : ByteArray} (hS : St C pb po A w tv bv c4 ts bs env N) (hT : Step C pb A0 w0 tv0 bv0 c40 A w tv bv c4) (hL : Locs C pb A tv bv w L) (hs : s.size ≤ maxLen) {g : Nat} (hg : g = w.heap.size) :
    St C pb po (fun k => A k ∨ k = g) (w.alloc (.cells #[.string s] 9)) tv bv c4 ts bs env N ∧ Step C pb A0 w0 tv0 bv0 c40 (fun k => A k ∨ k = g) (w.alloc (.cells #[.string s] 9)) tv bv c4 ∧ Locs C pb (fun k => A k ∨ k = g) tv bv (w.alloc (.cells #[.string s] 9)) L ∧ StrsAt (fun k => A k ∨ k = g) (w.alloc (.cells #[.string s] 9)) (.slice (some ⟨g, 0, none⟩) 1 1) [s] := by
  subst hg
  have hB : Below w.heap.size w (w.alloc (.cells #[.string s] 9)) := (Below.refl _ _).alloc (Nat.le_refl _) _
  refine ⟨(hS.below hB).more (fun k a => .inl a) (fun k a => ?_), (hT.below hB).more (fun k a => .inl a) (fun k a => ?_), fun p hp => ?_, strs_one' (heap_alloc_new w _) (.inr rfl) hs⟩
  · rcases a with a | a
    · exact .inl a
    · subst a; exact .inr ⟨by simp, fun m => Nat.lt_irrefl _ (hS.mlt m)⟩
  · rcases a with a | a
    · exact .inl a
    · exact .inr (by have := hT.size; omega)
  · obtain ⟨h1, h2, h3⟩ := (hL.below hB) p hp
    refine ⟨h1, fun a => ?_, h3⟩
    rcases a with a | a
    · exact h2 a
    · have := hL.lt hp; omega

abbrev bindL (gs : Nat) : Obj := .cells #[.string ⟨#[]⟩, .bool false, .int .u8 83, .int .i64 0, .string ⟨#[]⟩, .slice (some ⟨gs, 0, none⟩) 1 1, .slice none 0 0, .slice none 0 0] 88 (0, 0)
abbrev locL (C : VC) (w : World) (n : Nd) (nv : Value) : List (Nat × Obj) := [(w.heap.size + 1 + 1, .cells #[.string ⟨#[]⟩, .bool false] 57 (0, 0)), (w.heap.size + 1, .cells #[.int .u8 n.kind, .int .i64 n.num, .string n.name, nv] 35 (0, 0)), (w.heap.size, .cells #[.pointer (some ⟨C.bV, 0, none⟩)] 161 (0, 0))]

theorem chA1 {C : VC} {pb po N : Nat} {A A1 : Nat → Prop} {w w1 : World} {tv bv c4 tv1 bv1 c41 nv : Value} {bs : List Bd} {n : Nd} {X : XR} (hS : St C pb po A1 w1 tv1 bv1 c41 X.ts (bs ++ X.bs) X.env N) (hT : Step C pb A w tv bv c4 A1 w1 tv1 bv1 c41) (hL : Locs C pb A1 tv1 bv1 w1 (locL C w n nv)) (hs : X.par.name.size ≤ maxLen) :
    ChA C pb po A w tv bv c4 bs N nv n X (.pointer (some ⟨w1.heap.size + 1, 0, none⟩)) ((w1.alloc (.cells #[.string X.par.name] 9)).alloc (bindL w1.heap.size)) := by
  obtain ⟨a1, a2, a3, a4⟩ := lit_shut hS hT hL hs rfl
  have hB : Below (w1.alloc (.cells #[.string X.par.name] 9)).heap.size (w1.alloc (.cells #[.string X.par.name] 9)) ((w1.alloc (.cells #[.string X.par.name] 9)).alloc (bindL w1.heap.size)) := (Below.refl _ _).alloc (Nat.le_refl _) _
  have hl := hL.lt (p := (w.heap.size + 1 + 1, _)) (List.mem_cons_self ..)
  have a5 := a3.alloc a1 (bindL w1.heap.size)
  have e : (w1.alloc (.cells #[.string X.par.name] 9)).heap.size = w1.heap.size + 1 := by simp
  rw [e] at a5
  simp only at hl
  exact ⟨_, _, _, tv1, bv1, c41, rfl, a1.below hB, a2.below hB, a5, a4.stays (Stays.of_below hB), by omega⟩
theorem chA2 {C : VC} {pb po N : Nat} {A A1 : Nat → Prop} {w w1 : World} {tv bv c4 tv1 bv1 c41 nv : Value} {bs : List Bd} {n : Nd} {X : XR} (hS : St C pb po A1 w1 tv1 bv1 c41 X.ts (bs ++ X.bs) X.env N) (hT : Step C pb A w tv bv c4 A1 w1 tv1 bv1 c41) (hL : Locs C pb A1 tv1 bv1 w1 (locL C w n nv)) (hs : X.par.name.size ≤ maxLen) :
    ChA C pb po A w tv bv c4 bs N nv n X (.pointer (some ⟨w1.heap.size, 0, none⟩)) ((w1.alloc (bindL (w1.heap.size + 1))).alloc (.cells #[.string X.par.name] 9)) := by
  have hB : Below w1.heap.size w1 (w1.alloc (bindL (w1.heap.size + 1))) := (Below.refl _ _).alloc (Nat.le_refl _) _
  obtain ⟨a1, a2, a3, a4⟩ := lit_shut (hS.below hB) (hT.below hB) (hL.alloc hS (bindL (w1.heap.size + 1))) hs (g := w1.heap.size + 1) (by simp)
  have hl := hL.lt (p := (w.heap.size + 1 + 1, _)) (List.mem_cons_self ..)
  exact ⟨_, _, _, tv1, bv1, c41, rfl, a1, a2, a3, a4, hl⟩
theorem chA3 {C : VC} {pb po N g : Nat} {A A1 : Nat → Prop} {w w1 : World} {tv bv c4 tv1 bv1 c41 nv z0 z1 z2 z3 z4 z5 z6 z7 : Value} {bs : List Bd} {n : Nd} {X : XR} (hS : St C pb po A1 w1 tv1 bv1 c41 X.ts (bs ++ X.bs) X.env N) (hT : Step C pb A w tv bv c4 A1 w1 tv1 bv1 c41) (hL : Locs C pb A1 tv1 bv1 w1 ((g, .cells #[z0, z1, z2, z3, z4, z5, z6, z7] 88 (0, 0)) :: locL C w n nv)) (hs : X.par.name.size ≤ maxLen) (hg : w.heap.size + 1 + 1 < g) :
    ChA C pb po A w tv bv c4 bs N nv n X (.pointer (some ⟨g, 0, none⟩)) ((((((((((w1.alloc (.cells #[.string X.par.name] 9)).setCell ⟨g, 0, none⟩ (.string ⟨#[]⟩)).setCell ⟨g, 1, none⟩ (.bool false)).setCell ⟨g, 2, none⟩ (.int .u8 83)).setCell ⟨g, 3, none⟩ (.int .i64 0)).setCell ⟨g, 4, none⟩ (.string ⟨#[]⟩)).setCell ⟨g, 5, none⟩ (.slice (some ⟨w1.heap.size, 0, none⟩) 1 1)).setCell ⟨g, 6, none⟩ (.slice none 0 0)).setCell ⟨g, 7, none⟩ (.slice none 0 0))) := by
  obtain ⟨a1, a2, a3, a4⟩ := lit_shut hS hT hL hs rfl
  have hne : ∀ p ∈ locL C w n nv, p.1 ≠ g := by
    intro p hp
    simp only [locL, List.mem_cons, List.not_mem_nil, or_false] at hp
    rcases hp with rfl | rfl | rfl <;> simp only <;> omega
  have l0 := a3.set 0 (.string ⟨#[]⟩) hne
  have l1 := l0.set 1 (.bool false) hne
  have l2 := l1.set 2 (.int .u8 83) hne
  have l3 := l2.set 3 (.int .i64 0) hne
  have l4 := l3.set 4 (.string ⟨#[]⟩) hne
  have l5 := l4.set 5 (.slice (some ⟨w1.heap.size, 0, none⟩) 1 1) hne
  have l6 := l5.set 6 (.slice none 0 0) hne
  have l7 := l6.set 7 (.slice none 0 0) hne
  have s7 := (((((((a1.setLoc a3 (List.mem_cons_self ..) 0 (.string ⟨#[]⟩)).setLoc l0 (List.mem_cons_self ..) 1 (.bool false)).setLoc l1 (List.mem_cons_self ..) 2 (.int .u8 83)).setLoc l2 (List.mem_cons_self ..) 3 (.int .i64 0)).setLoc l3 (List.mem_cons_self ..) 4 (.string ⟨#[]⟩)).setLoc l4 (List.mem_cons_self ..) 5 (.slice (some ⟨w1.heap.size, 0, none⟩) 1 1)).setLoc l5 (List.mem_cons_self ..) 6 (.slice none 0 0)).setLoc l6 (List.mem_cons_self ..) 7 (.slice none 0 0)
  have hK := (((((((keeps_set (w1.alloc (.cells #[.string X.par.name] 9)) g 0 (.string ⟨#[]⟩)).same (keeps_set _ g 1 (.bool false))).same (keeps_set _ g 2 (.int .u8 83))).same (keeps_set _ g 3 (.int .i64 0))).same (keeps_set _ g 4 (.string ⟨#[]⟩))).same (keeps_set _ g 5 (.slice (some ⟨w1.heap.size, 0, none⟩) 1 1))).same (keeps_set _ g 6 (.slice none 0 0))).same (keeps_set _ g 7 (.slice none 0 0))
  simp only [List.setIfInBounds_toArray, List.set_cons_zero, List.set_cons_succ] at l7
  refine ⟨g, w1.heap.size, _, tv1, bv1, c41, rfl, s7, a2.young hK (fun k e => by omega), l7, a4.stays (hK.stays (fun k a _ e => ?_)), hg⟩
  exact (a3 _ (List.mem_cons_self ..)).2.1 (by rw [show g = k from (e : k = g).symm]; exact a)

/-- a branch, seen from the choice -/
theorem br_step {C : VC} {pb po N g9 : Nat} {A A0 A' : Nat → Prop} {w w0 w' : World} {tv bv c4 tv0 bv0 c40 tv' : Value} {L : List (Nat × Obj)} {o o' : Obj} (hT : Step C pb A0 w0 tv0 bv0 c40 A w tv bv c4) (hL : Locs C pb A tv bv w ((g9, o) :: L)) (hne : ∀ p ∈ L, p.1 ≠ g9) (hg : w0.heap.size ≤ g9)
    (hk : Keeps w w' (fun k => Mu C pb tv bv k ∨ k = g9)) (hup : ∀ k, A k → A' k) (hnew : ∀ k, A' k → A k ∨ w.heap.size ≤ k) (hn : NewOr w tv tv') (h9 : w'.heap[g9]? = some o') :
    Step C pb A0 w0 tv0 bv0 c40 A' w' tv' bv c4 ∧ Locs C pb A' tv' bv w' ((g9, o') :: L) := by
  have key : ∀ p ∈ (g9, o) :: L, ¬ A' p.1 ∧ ¬ Mu C pb tv' bv p.1 := fun p hp => by
    obtain ⟨h1, h2, h3⟩ := hL p hp
    have hlt := hL.lt hp
    refine ⟨fun a => ?_, fun m => ?_⟩
    · rcases hnew _ a with a | a
      · exact h2 a
      · omega
    · rcases Mut.new m hn (NewOr.refl w bv) with a | a
      · exact h3 a
      · omega
  refine ⟨⟨hT.keeps.trans hk (fun k e => ?_), fun k a => hup k (hT.up k a), fun k a => ?_, hT.ntv.trans hn hT.size, hT.nbv, hT.hc4⟩, fun p hp => ?_⟩
  · rcases e with e | e
    · exact Mut.new e hT.ntv hT.nbv
    · exact .inr (by omega)
  · rcases hnew k a with a | a
    · exact hT.new k a
    · exact .inr (Nat.le_trans hT.size a)
  · rcases List.mem_cons.1 hp with rfl | hp
    · exact ⟨h9, (key (g9, o) (List.mem_cons_self ..)).1, (key (g9, o) (List.mem_cons_self ..)).2⟩
    · obtain ⟨h1, h2, h3⟩ := hL p (List.mem_cons_of_mem _ hp)
      refine ⟨(hk.block _ (hL.lt (List.mem_cons_of_mem _ hp)) ?_).trans h1, key p (List.mem_cons_of_mem _ hp)⟩
      rintro (e | e)
      · exact h3 e
      · exact hne p hp e
theorem br_stays {C : VC} {pb po N g9 : Nat} {A A' : Nat → Prop} {w w' : World} {tv bv c4 : Value} {ts : List Par} {bs : List Bd} {env : Env} {L : List (Nat × Obj)} {o : Obj} (hS : St C pb po A w tv bv c4 ts bs env N) (hL : Locs C pb A tv bv w ((g9, o) :: L)) (hk : Keeps w w' (fun k => Mu C pb tv bv k ∨ k = g9)) (hup : ∀ k, A k → A' k) : Stays A A' w w' :=
  ⟨hk.size, fun b hb a => ⟨hk.block b hb (by
    rintro (e | e)
    · exact VSt.mutA hS b e a
    · subst e; exact (hL _ (List.mem_cons_self ..)).2.1 a), hup b a⟩⟩
/-- 'fresh', seen from the choice -/
theorem fresh_st (C : VC) (pb po : Nat) (A : Nat → Prop) (w : World) (tv bv c4 : Value) (ts : List Par) (bs : List Bd) (env : Env) (N : Nat) (hS : St C pb po A w tv bv c4 ts bs env N) (hl : ts.length ≤ 200000) :
    Calls Tryz.prog 111 #[.pointer (some ⟨C.bo, 0, none⟩)] w fun e w' => e = .returned (.int .i64 ts.length) ∧ ∃ tv', St C pb po A w' tv' bv c4 (ts ++ [⟨tname ts.length, false⟩]) bs env N ∧ Step C pb A w tv bv c4 A w' tv' bv c4 := by
  refine (fresh_any w C.bo C.c0 C.c1 C.c2 c4 C.c5 tv ts (VSt.out hS) hl (VSt.tab hS)).mono ?_
  rintro e w' ⟨rfl, tv', h1, h2, h3⟩
  exact ⟨rfl, tv', VSt.temp hS h1 h2 h3, h2.mono (fun k e => mut_of e), fun _ a => a, fun _ a => .inl a, h3, NewOr.refl _ _, fun _ => rfl⟩
end Go.Proofs.YtehmmokkjojggabGreatDoor
/- The visitor of package anf: the walk of choice. -/
namespace Go.Proofs.YtehmmokkjojggabGreatDoor
set_option linter.unusedVariables false
open Go.RowKit

theorem choice_locs {C : VC} {pb : Nat} {A : Nat → Prop} {tv bv : Value} {w w2 : World} {a b : Obj} {L : List (Nat × Obj)} (h : Locs C pb A tv bv w ((((w2.alloc a).heap.size, b)) :: (w2.heap.size, a) :: L)) : Locs C pb A tv bv w ((w2.heap.size + 1, b) :: (w2.heap.size, a) :: L) := by
  have e : (w2.alloc a).heap.size = w2.heap.size + 1 := by simp
  rw [e] at h; exact h

set_option maxRecDepth 100000 in
set_option maxHeartbeats 6400000 in
theorem choice_st (m : Nat) (ih : XOk m) (C : VC) (n : Nd) (v : Value) (pb po : Nat) (A : Nat → Prop) (w : World) (tv bv c4 : Value) (ts : List Par) (bs : List Bd) (env : Env) (N : Nat) (h83 : n.kind = 83) (hm : sizeN n ≤ m + 1) (hform : formedN n = true) (hkn : knownN C.lib n = true) (hv : NdAt A w v n) (hst : St C pb po A w tv bv c4 ts bs env N)
    (hse : SmallE env) (hts : TsSmall ts) (hl1 : ts.length + 2 * sizeN n ≤ 100000) (hl2 : bs.length + 2 * sizeN n ≤ 100000) (hl3 : N + 2 * sizeN n ≤ 100000) :
    Calls Tryz.prog 131 #[.pointer (some ⟨C.bV, 0, none⟩), v, .pointer (some ⟨pb, po, none⟩)] w (XPost C pb po A w tv bv c4 bs (N + 2 * sizeN n) (exprN C.lib n env ts)) := by
  obtain ⟨hok, hlen, ka, kc, rfl, hk⟩ := hv.open
  have hk3 := formed_if hform h83
  have hsz : sizeN n = sizeN (at' n.kids 0) + sizeN (at' n.kids 1) + sizeN (at' n.kids 2) + 1 := by rw [sizeN_eq, kids3 hk3]; simp [sizeL, at']; omega
  have H83 := Lib.hid h83
  have hx1 := expr_len C.lib (at' n.kids 0) env ts
  have hx2 := expr_small C.lib (at' n.kids 0) env ts hse hts (by omega)
  have i0 : (0 : Int) < (n.kids.length : Int) := by omega
  have i0n : 0 < n.kids.length := by omega
  have i1 : (1 : Int) < (n.kids.length : Int) := by omega
  have i2 : (2 : Int) < (n.kids.length : Int) := by omega
  have hL0 := Locs.three hst (.cells #[.pointer (some ⟨C.bV, 0, none⟩)] 161) (.cells #[.int .u8 n.kind, .int .i64 n.num, .string n.name, .slice ka n.kids.length kc] 35) (.cells #[.string ⟨#[]⟩, .bool false] 57)
  have hA : Below w.heap.size w (((w.alloc (.cells #[.pointer (some ⟨C.bV, 0, none⟩)] 161)).alloc (.cells #[.int .u8 n.kind, .int .i64 n.num, .string n.name, .slice ka n.kids.length kc] 35)).alloc (.cells #[.string ⟨#[]⟩, .bool false] 57)) := (((Below.refl _ _).alloc (Nat.le_refl _) _).alloc (by simp) _).alloc (by simp; omega) _
  have hWs : (((w.alloc (.cells #[.pointer (some ⟨C.bV, 0, none⟩)] 161)).alloc (.cells #[.int .u8 n.kind, .int .i64 n.num, .string n.name, .slice ka n.kids.length kc] 35)).alloc (.cells #[.string ⟨#[]⟩, .bool false] 57)).heap.size = w.heap.size + 1 + 1 + 1 := by simp
  have hS0 := hst.below hA
  have hT0 := (Step.refl C pb A w tv bv c4).below hA
  obtain ⟨b, off, cap, ka0, kc0, he, q0, q1, q2, q3, hnd0⟩ := hk.later (hst.stays hT0) (j := 0) (by omega)
  simp only [Value.slice.injEq] at he
  obtain ⟨rfl, -, rfl⟩ := he
  simp only [Nat.zero_mul, Nat.add_zero] at q0 q1 q2 q3
  have HCX : Hid (∀ W', Below (((w.alloc (.cells #[.pointer (some ⟨C.bV, 0, none⟩)] 161)).alloc (.cells #[.int .u8 n.kind, .int .i64 n.num, .string n.name, .slice (some ⟨b, off, none⟩) n.kids.length kc] 35)).alloc (.cells #[.string ⟨#[]⟩, .bool false] 57)).heap.size (((w.alloc (.cells #[.pointer (some ⟨C.bV, 0, none⟩)] 161)).alloc (.cells #[.int .u8 n.kind, .int .i64 n.num, .string n.name, .slice (some ⟨b, off, none⟩) n.kids.length kc] 35)).alloc (.cells #[.string ⟨#[]⟩, .bool false] 57)) W' → Calls Tryz.prog 114 _ W' (XPost C pb po A W' tv bv c4 bs (N + 2 * sizeN (at' n.kids 0)) (exprN C.lib (at' n.kids 0) env ts))) := Lib.hid (fun W' hb => ih C (at' n.kids 0) _ pb po A W' tv bv c4 ts bs env N (by omega) (formed_kid hform (by omega)) (known_kid hkn (by omega)) (hnd0.stays (Stays.of_below hb)) (hS0.below hb) hse hts (by omega) (by omega) (by omega))
  have r0 : _ = some (Value.pointer (some ⟨C.bV, 0, none⟩)) := cell_blk (hL0.blk (g := w.heap.size) (List.mem_cons_of_mem _ (List.mem_cons_of_mem _ (List.mem_cons_self ..)))) 0 rfl
  have r3 : _ = some (Value.slice (some ⟨b, off, none⟩) n.kids.length kc) := cell_blk (hL0.blk (g := w.heap.size + 1) (List.mem_cons_of_mem _ (List.mem_cons_self ..))) 3 rfl
  have HST := Lib.hid hst
  have HS0 := Lib.hid hS0
  have HL0 := Lib.hid hL0
  have HT0 := Lib.hid hT0
  have HK := Lib.hid hk
  have HK3 := Lib.hid hk3
  have HF := Lib.hid hform
  have HKN := Lib.hid hkn
  have HSZ := Lib.hid hsz
  clear hst hS0 h83 hk hform hkn hk3 hnd0 hsz hL0 hT0
  have HWS := Lib.hid hWs
  clear hWs
  go_enter Tryz.func131, Tryz.ntmps131
  go_wp2
  generalize (((w.alloc (.cells #[.pointer (some ⟨C.bV, 0, none⟩)] 161)).alloc (.cells #[.int .u8 n.kind, .int .i64 n.num, .string n.name, .slice (some ⟨b, off, none⟩) n.kids.length kc] 35)).alloc (.cells #[.string ⟨#[]⟩, .bool false] 57)) = W at *
  have hfd := field_par0
  have hD : Below W.heap.size W W.drew := below_drewN (Below.refl _ _) 1
  generalize hXe : exprN C.lib (at' n.kids 0) env ts = X at *
  have HXE := Lib.hid hXe
  clear hXe
  go_cut [7] (fun s7 wx => ChA C pb po A w tv bv c4 bs (N + 2 * sizeN (at' n.kids 0)) (.slice (some ⟨b, off, none⟩) n.kids.length kc) n X s7 wx)
  case first =>
    have hZ0 : Below W.heap.size W (W.alloc (.cells #[.string ⟨#[]⟩, .bool false, .int .u8 0, .int .i64 0, .string ⟨#[]⟩, .slice none 0 0, .slice none 0 0, .slice none 0 0] 88)) := (Below.refl _ _).alloc (Nat.le_refl _) _
    have e0 := (hZ0.cell (World.block_lt_of_cell? W _ q0)).trans q0
    have e1 := (hZ0.cell (World.block_lt_of_cell? W _ q1)).trans q1
    have e2 := (hZ0.cell (World.block_lt_of_cell? W _ q2)).trans q2
    have e3 := (hZ0.cell (World.block_lt_of_cell? W _ q3)).trans q3
    have e4 := (hZ0.cell (World.block_lt_of_cell? W _ r0)).trans r0
    have e5 := (hZ0.cell (World.block_lt_of_cell? W _ r3)).trans r3
    have hZ : Below W.heap.size W (W.alloc (.cells #[.string ⟨#[]⟩, .bool false, .int .u8 0, .int .i64 0, .string ⟨#[]⟩, .slice none 0 0, .slice none 0 0, .slice none 0 0] 88)).drew := below_drewN ((Below.refl _ _).alloc (Nat.le_refl _) _) 1
    have HLZ := Lib.hid ((HL0.out.alloc HS0.out (.cells #[.string ⟨#[]⟩, .bool false, .int .u8 0, .int .i64 0, .string ⟨#[]⟩, .slice none 0 0, .slice none 0 0, .slice none 0 0] 88)).below (below_drewN (Below.refl _ _) 1))
    go_region_law (first
      | (go_simp; go_at_call 114; refine (HCX.out _ hD).mono ?_; rintro e w1 ⟨rfl, A1, tv1, bv1, c41, hS1, hT1⟩; have HL1 := Lib.hid ((HL0.out.below hD).step hT1); have HT1 := Lib.hid ((HT0.out.below hD).trans hT1); have HS1 := Lib.hid hS1; clear hS1 hT1)
      | (go_simp; go_at_call 114; refine (HCX.out _ hZ).mono ?_; rintro e w1 ⟨rfl, A1, tv1, bv1, c41, hS1, hT1⟩; have hLz := HLZ.out.step hT1; have HT1 := Lib.hid ((HT0.out.below hZ).trans hT1); have HS1 := Lib.hid hS1; have hzb := (hLz.below ((Below.refl _ _).alloc (Nat.le_refl _) (.cells #[.string X.par.name] 9))).blk (List.mem_cons_self ..); obtain ⟨z0, z1, z2, z3, z4, z5, z6, z7⟩ := cells8 hzb; have hfz := unfrozen hzb; have HLz := Lib.hid hLz; clear hS1 hT1 hLz hzb))
    all_goals
      clear q0 q1 q2 q3 r0 r3 e0 e1 e2 e3 e4 e5
      go_wp2
      go_meet
      first
        | with_reducible exact chA1 HS1.out HT1.out HL1.out hx2.1
        | with_reducible exact chA2 HS1.out HT1.out HL1.out hx2.1
        | exact chA3 HS1.out HT1.out HLz.out hx2.1 (by have := HWS.out; omega)
  case rest =>
    obtain ⟨g7, gs, A1, tv1, bv1, c41, rfl, hS1, hT1, hL1, hA1, hg7⟩ := hcut
    have v2 : wc.cell? ⟨C.bV, 2, none⟩ = some (.func (.func 111) #[] #[.pointer (some ⟨C.bo, 0, none⟩)]) := cell_blk (VSt.vis hS1) 2 rfl
    have p0 : wc.cell? ⟨w.heap.size, 0, none⟩ = some (.pointer (some ⟨C.bV, 0, none⟩)) := cell_blk (hL1.blk (g := w.heap.size) (List.mem_cons_of_mem _ (List.mem_cons_of_mem _ (List.mem_cons_of_mem _ (List.mem_cons_self ..))))) 0 rfl
    have HFR := Lib.hid (fresh_st C pb po A1 wc tv1 bv1 c41 X.ts (bs ++ X.bs) X.env _ hS1 (by have := HSZ.out; omega))
    have HL1 := Lib.hid hL1
    have HT1 := Lib.hid hT1
    have HS1 := Lib.hid hS1
    have HA1 := Lib.hid hA1
    have hmf : ∀ (fn : Go.Fn) (first cap : Array Value) (w : World), (Instr.makeFunc fn first cap).run Tryz.prog w = .ok (.func fn first cap) w := fun _ _ _ _ => rfl
    clear hS1 hT1 hL1 hA1 q0 q1 q2 q3 r0 r3
    have hsz := HSZ.out
    go_wp2_with fail
    refine HFR.out.mono ?_
    rintro e w2 ⟨rfl, tv2, hS2, hT2⟩
    have hB3 : Below w2.heap.size w2 ((w2.alloc (.cells #[.int .i64 X.ts.length] 3)).alloc (.cells #[.string ⟨#[]⟩, .bool false] 57)) := ((Below.refl _ _).alloc (Nat.le_refl _) _).alloc (by simp) _
    have hL2 := HL1.out.step hT2
    have hL3 := (hL2.alloc hS2 (.cells #[.int .i64 X.ts.length] 3)).alloc (hS2.below ((Below.refl _ _).alloc (Nat.le_refl _) _)) (.cells #[.string ⟨#[]⟩, .bool false] 57)
    have hT3 := (HT1.out.trans hT2).below hB3
    have hS3 := hS2.below hB3
    have HS3 := Lib.hid hS3
    have HT3 := Lib.hid hT3
    have HL3 := Lib.hid (choice_locs hL3)
    have HA3 := Lib.hid ((HA1.out.stays (HS1.out.stays hT2)).stays (Stays.of_below hB3))
    have k3 : ((w2.alloc (.cells #[.int .i64 X.ts.length] 3)).alloc (.cells #[.string ⟨#[]⟩, .bool false] 57)).cell? ⟨w.heap.size + 1, 3, none⟩ = some (.slice (some ⟨b, off, none⟩) n.kids.length kc) := cell_blk (HL3.out.blk (g := w.heap.size + 1) (List.mem_cons_of_mem _ (List.mem_cons_of_mem _ (List.mem_cons_of_mem _ (List.mem_cons_of_mem _ (List.mem_cons_self ..)))))) 3 rfl
    have hlt2 : w.heap.size + 1 + 1 < w2.heap.size := hL2.lt (p := (w.heap.size + 1 + 1, _)) (List.mem_cons_of_mem _ (List.mem_cons_self ..))
    have hlt7 : g7 < w2.heap.size := hL2.lt (p := (g7, _)) (List.mem_cons_self ..)
    obtain ⟨b', off', cap', ka1, kc1, he1, q0, q1, q2, q3, hnd1⟩ := HK.out.later (HST.out.stays hT3) (j := 1) (by have := HK3.out; omega)
    simp only [Value.slice.injEq, Option.some.injEq, Addr.mk.injEq, and_true] at he1
    obtain ⟨⟨rfl, rfl⟩, -, rfl⟩ := he1
    simp only [Nat.one_mul] at q0 q1 q2 q3
    have HND1 := Lib.hid hnd1
    clear hS2 hT2 hL2 hL3 hT3 hS3 hnd1
    have hy1 := expr_len C.lib (at' n.kids 1) X.env (X.ts ++ [⟨tname X.ts.length, false⟩])
    have hy2 := expr_small C.lib (at' n.kids 1) X.env (X.ts ++ [⟨tname X.ts.length, false⟩]) hx2.2.1 (hx2.2.2.snoc (tname_small (by omega))) (by rw [List.length_append, List.length_singleton]; omega)
    rw [List.length_append, List.length_singleton] at hy1
    have HBR := Lib.hid (branch_st m ih C (at' n.kids 1) _ pb po A1 _ tv2 bv1 c41 _ _ X.env _ w.heap.size w2.heap.size (w2.heap.size + 1) X.ts.length ⟨#[]⟩ false (by omega) (formed_kid HF.out (by have := HK3.out; omega)) (known_kid HKN.out (by have := HK3.out; omega)) HND1.out HS3.out (HL3.out.sub (by simp)) (by simp) hx2.2.1 (hx2.2.2.snoc (tname_small (by omega))) (by rw [List.length_append, List.length_singleton]; omega) (by omega))
    generalize hYe : exprN C.lib (at' n.kids 1) X.env (X.ts ++ [⟨tname X.ts.length, false⟩]) = Y at *
    have HYE := Lib.hid hYe
    clear hYe v2 p0
    go_wp2_with fail
    refine HBR.out.mono ?_
    rintro e w4 ⟨rv, A4, tv4, rfl, hS4, hk4, hup4, hnw4, hn4, hB4, h94⟩
    obtain ⟨hT4, hL4⟩ := br_step (po := po) (N := 0) HT3.out HL3.out (by simp; omega) (by omega) hk4 hup4 hnw4 hn4 h94
    have HA4 := Lib.hid (HA3.out.stays (br_stays HS3.out HL3.out hk4 hup4))
    obtain ⟨_, ra, rc, hrv⟩ := hB4.form
    have HB4 : Hid (BdsAt A4 w4 rv (Y.bs ++ [varB (at' (setTy Y.ts X.ts.length Y.par.list) X.ts.length).name (at' (setTy Y.ts X.ts.length Y.par.list) X.ts.length).list Y.par.name])) := Lib.hid hB4
    generalize (Y.bs ++ [varB (at' (setTy Y.ts X.ts.length Y.par.list) X.ts.length).name (at' (setTy Y.ts X.ts.length Y.par.list) X.ts.length).list Y.par.name]).length = nY at hrv
    subst hrv
    have hL4' := hL4.sub (L' := [(g7, bindL gs), (w2.heap.size + 1, .cells #[.string (at' (setTy Y.ts X.ts.length Y.par.list) X.ts.length).name, .bool (at' (setTy Y.ts X.ts.length Y.par.list) X.ts.length).list] 57 (0, 0)), (w2.heap.size, .cells #[.int .i64 X.ts.length] 3 (0, 0)), (w.heap.size + 1 + 1, .cells #[.string ⟨#[]⟩, .bool false] 57 (0, 0)), (w.heap.size + 1, .cells #[.int .u8 n.kind, .int .i64 n.num, .string n.name, .slice (some ⟨b, off, none⟩) n.kids.length kc] 35 (0, 0)), (w.heap.size, .cells #[.pointer (some ⟨C.bV, 0, none⟩)] 161 (0, 0))]) (by simp)
    have hg7 : w4.heap[g7]? = _ := hL4'.blk (List.mem_cons_self ..)
    have z6 : w4.cell? ⟨g7, 6, none⟩ = some (.slice none 0 0) := cell_blk hg7 6 rfl
    have fz6 := unfrozen hg7 6
    have hP7 : ∀ p ∈ [(w2.heap.size + 1, Obj.cells #[.string (at' (setTy Y.ts X.ts.length Y.par.list) X.ts.length).name, .bool (at' (setTy Y.ts X.ts.length Y.par.list) X.ts.length).list] 57 (0, 0)), (w2.heap.size, .cells #[.int .i64 X.ts.length] 3 (0, 0)), (w.heap.size + 1 + 1, .cells #[.string ⟨#[]⟩, .bool false] 57 (0, 0)), (w.heap.size + 1, .cells #[.int .u8 n.kind, .int .i64 n.num, .string n.name, .slice (some ⟨b, off, none⟩) n.kids.length kc] 35 (0, 0)), (w.heap.size, .cells #[.pointer (some ⟨C.bV, 0, none⟩)] 161 (0, 0))], p.1 ≠ g7 := by simp; omega
    have hL5 := hL4'.set 6 (.slice ra nY rc) hP7
    simp only [List.setIfInBounds_toArray, List.set_cons_zero, List.set_cons_succ] at hL5
    have hS5 := hS4.setLoc hL4' (List.mem_cons_self ..) 6 (.slice ra nY rc)
    have hT5 := hT4.young (keeps_set w4 g7 6 (.slice ra nY rc)) (fun k e => by omega)
    have hst5 : Stays A4 A4 w4 (w4.setCell ⟨g7, 6, none⟩ (.slice ra nY rc)) := (keeps_set w4 g7 6 (.slice ra nY rc)).stays (fun k a _ e => (hL4' _ (List.mem_cons_self ..)).2.1 (by rw [show g7 = k from (e : k = g7).symm]; exact a))
    have HB5 := Lib.hid (HB4.out.stays hst5)
    have HA5 := Lib.hid (HA4.out.stays hst5)
    have HL5 := Lib.hid hL5
    have HS5 := Lib.hid hS5
    have HT5 := Lib.hid hT5
    have k3' : (w4.setCell ⟨g7, 6, none⟩ (.slice ra nY rc)).cell? ⟨w.heap.size + 1, 3, none⟩ = some (.slice (some ⟨b, off, none⟩) n.kids.length kc) := cell_blk (hL5.blk (g := w.heap.size + 1) (List.mem_cons_of_mem _ (List.mem_cons_of_mem _ (List.mem_cons_of_mem _ (List.mem_cons_of_mem _ (List.mem_cons_self ..)))))) 3 rfl
    obtain ⟨b', off', cap', ka2, kc2, he2, t0, t1, t2, t3, hnd2⟩ := HK.out.later (HST.out.stays hT5) (j := 2) (by have := HK3.out; omega)
    simp only [Value.slice.injEq, Option.some.injEq, Addr.mk.injEq, and_true] at he2
    obtain ⟨⟨rfl, rfl⟩, -, rfl⟩ := he2
    have hz1 := expr_len C.lib (at' n.kids 2) Y.env (setTy Y.ts X.ts.length Y.par.list)
    have hz2 := expr_small C.lib (at' n.kids 2) Y.env (setTy Y.ts X.ts.length Y.par.list) hy2.2.1 (hy2.2.2.ty _ _) (by rw [setTy_len]; omega)
    have HBR2 := Lib.hid (branch_st m ih C (at' n.kids 2) _ pb po A4 _ tv4 bv1 c41 _ _ Y.env _ w.heap.size w2.heap.size (w2.heap.size + 1) X.ts.length (at' (setTy Y.ts X.ts.length Y.par.list) X.ts.length).name (at' (setTy Y.ts X.ts.length Y.par.list) X.ts.length).list (by omega) (formed_kid HF.out (by have := HK3.out; omega)) (known_kid HKN.out (by have := HK3.out; omega)) hnd2 hS5 (hL5.sub (by simp)) (by rw [setTy_len]; omega) hy2.2.1 (hy2.2.2.ty _ _) (by rw [setTy_len]; omega) (by omega))
    rw [setTy_len] at hz1
    generalize hZe : exprN C.lib (at' n.kids 2) Y.env (setTy Y.ts X.ts.length Y.par.list) = Z at *
    have HZE := Lib.hid hZe
    clear hZe q0 q1 q2 q3 k3 hL4 hL4' hS4 hT4 hk4 hL5 hS5 hT5 hg7 hB4 h94 hst5 hnd2 HB4 HA4
    go_wp2_with fail
    refine HBR2.out.mono ?_
    rintro e w6 ⟨rv2, A6, tv6, rfl, hS6, hk6, hup6, hnw6, hn6, hB6, h96⟩
    have hL5t := HL5.out.sub (L' := [(w2.heap.size + 1, .cells #[.string (at' (setTy Y.ts X.ts.length Y.par.list) X.ts.length).name, .bool (at' (setTy Y.ts X.ts.length Y.par.list) X.ts.length).list] 57 (0, 0)), (g7, .cells #[.string ⟨#[]⟩, .bool false, .int .u8 83, .int .i64 0, .string ⟨#[]⟩, .slice (some ⟨gs, 0, none⟩) 1 1, .slice ra nY rc, .slice none 0 0] 88 (0, 0)), (w2.heap.size, .cells #[.int .i64 X.ts.length] 3 (0, 0)), (w.heap.size + 1 + 1, .cells #[.string ⟨#[]⟩, .bool false] 57 (0, 0)), (w.heap.size + 1, .cells #[.int .u8 n.kind, .int .i64 n.num, .string n.name, .slice (some ⟨b, off, none⟩) n.kids.length kc] 35 (0, 0)), (w.heap.size, .cells #[.pointer (some ⟨C.bV, 0, none⟩)] 161 (0, 0))]) (by simp)
    obtain ⟨hT6, hL6⟩ := br_step (po := po) (N := 0) HT5.out hL5t (by simp; omega) (by omega) hk6 hup6 hnw6 hn6 h96
    have hst6 := br_stays HS5.out hL5t hk6 hup6
    have hBa := HB5.out.stays hst6
    have hAa := HA5.out.stays hst6
    obtain ⟨_, rb, rd, hrv2⟩ := hB6.form
    have HB6 : Hid (BdsAt A6 w6 rv2 (Z.bs ++ [varB (at' (setTy Z.ts X.ts.length Z.par.list) X.ts.length).name (at' (setTy Z.ts X.ts.length Z.par.list) X.ts.length).list Z.par.name])) := Lib.hid hB6
    generalize (Z.bs ++ [varB (at' (setTy Z.ts X.ts.length Z.par.list) X.ts.length).name (at' (setTy Z.ts X.ts.length Z.par.list) X.ts.length).list Z.par.name]).length = nZ at hrv2
    subst hrv2
    have hL6' := hL6.sub (L' := [(g7, .cells #[.string ⟨#[]⟩, .bool false, .int .u8 83, .int .i64 0, .string ⟨#[]⟩, .slice (some ⟨gs, 0, none⟩) 1 1, .slice ra nY rc, .slice none 0 0] 88 (0, 0)), (w2.heap.size + 1, .cells #[.string (at' (setTy Z.ts X.ts.length Z.par.list) X.ts.length).name, .bool (at' (setTy Z.ts X.ts.length Z.par.list) X.ts.length).list] 57 (0, 0)), (w2.heap.size, .cells #[.int .i64 X.ts.length] 3 (0, 0)), (w.heap.size + 1 + 1, .cells #[.string ⟨#[]⟩, .bool false] 57 (0, 0)), (w.heap.size + 1, .cells #[.int .u8 n.kind, .int .i64 n.num, .string n.name, .slice (some ⟨b, off, none⟩) n.kids.length kc] 35 (0, 0)), (w.heap.size, .cells #[.pointer (some ⟨C.bV, 0, none⟩)] 161 (0, 0))]) (by simp)
    have hg7 : w6.heap[g7]? = _ := hL6'.blk (List.mem_cons_self ..)
    have z7 : w6.cell? ⟨g7, 7, none⟩ = some (.slice none 0 0) := cell_blk hg7 7 rfl
    have fz7 := unfrozen hg7 7
    have hQ7 : ∀ p ∈ ([(w2.heap.size + 1, .cells #[.string (at' (setTy Z.ts X.ts.length Z.par.list) X.ts.length).name, .bool (at' (setTy Z.ts X.ts.length Z.par.list) X.ts.length).list] 57 (0, 0)), (w2.heap.size, .cells #[.int .i64 X.ts.length] 3 (0, 0)), (w.heap.size + 1 + 1, .cells #[.string ⟨#[]⟩, .bool false] 57 (0, 0)), (w.heap.size + 1, .cells #[.int .u8 n.kind, .int .i64 n.num, .string n.name, .slice (some ⟨b, off, none⟩) n.kids.length kc] 35 (0, 0)), (w.heap.size, .cells #[.pointer (some ⟨C.bV, 0, none⟩)] 161 (0, 0))] : List (Nat × Obj)), p.1 ≠ g7 := by simp; omega
    have hL7 := hL6'.set 7 (.slice rb nZ rd) hQ7
    simp only [List.setIfInBounds_toArray, List.set_cons_zero, List.set_cons_succ] at hL7
    have hst7 : Stays A6 A6 w6 (w6.setCell ⟨g7, 7, none⟩ (.slice rb nZ rd)) := (keeps_set w6 g7 7 (.slice rb nZ rd)).stays (fun k a _ e => (hL6' _ (List.mem_cons_self ..)).2.1 (by rw [show g7 = k from (e : k = g7).symm]; exact a))
    have HB7 := Lib.hid (HB6.out.stays hst7)
    have HBa := Lib.hid (hBa.stays hst7)
    have HAa := Lib.hid (hAa.stays hst7)
    have HL7 := Lib.hid hL7
    have HS7 := Lib.hid (hS6.setLoc hL6' (List.mem_cons_self ..) 7 (.slice rb nZ rd))
    have HT7 := Lib.hid (hT6.young (keeps_set w6 g7 7 (.slice rb nZ rd)) (fun k e => by omega))
    have n0 : (w6.setCell ⟨g7, 7, none⟩ (.slice rb nZ rd)).cell? ⟨w2.heap.size + 1, 0, none⟩ = some (.string (at' (setTy Z.ts X.ts.length Z.par.list) X.ts.length).name) := cell_blk (hL7.blk (g := w2.heap.size + 1) (List.mem_cons_of_mem _ (List.mem_cons_self ..))) 0 rfl
    have n1 : (w6.setCell ⟨g7, 7, none⟩ (.slice rb nZ rd)).cell? ⟨w2.heap.size + 1, 1, none⟩ = some (.bool (at' (setTy Z.ts X.ts.length Z.par.list) X.ts.length).list) := cell_blk (hL7.blk (g := w2.heap.size + 1) (List.mem_cons_of_mem _ (List.mem_cons_self ..))) 1 rfl
    obtain ⟨s0, s1, s2, s3, s4, s5, s6, s7⟩ := cells8 (hL7.blk (List.mem_cons_self ..))
    have hfz := unfrozen (hL7.blk (List.mem_cons_self ..))
    clear hk6 hL5t hS6 hT6 hL6 hst6 hBa hAa hL6' hB6 hg7 hL7 hst7 h96 t0 t1 t2 t3 k3' HB6
    go_wp2_with fail
    generalize (w6.setCell ⟨g7, 7, none⟩ (.slice rb nZ rd)) = W7 at *
    clear z7 fz7 z6 fz6
    go_region
    have hD8 : Below ((W7.setCell ⟨g7, 0, none⟩ (.string (at' (setTy Z.ts X.ts.length Z.par.list) X.ts.length).name)).setCell ⟨g7, 1, none⟩ (.bool (at' (setTy Z.ts X.ts.length Z.par.list) X.ts.length).list)).heap.size ((W7.setCell ⟨g7, 0, none⟩ (.string (at' (setTy Z.ts X.ts.length Z.par.list) X.ts.length).name)).setCell ⟨g7, 1, none⟩ (.bool (at' (setTy Z.ts X.ts.length Z.par.list) X.ts.length).list)) ((W7.setCell ⟨g7, 0, none⟩ (.string (at' (setTy Z.ts X.ts.length Z.par.list) X.ts.length).name)).setCell ⟨g7, 1, none⟩ (.bool (at' (setTy Z.ts X.ts.length Z.par.list) X.ts.length).list)).drew := below_drewN (Below.refl _ _) 1
    have hL8 := ((HL7.out.set 0 (.string (at' (setTy Z.ts X.ts.length Z.par.list) X.ts.length).name) hQ7).set 1 (.bool (at' (setTy Z.ts X.ts.length Z.par.list) X.ts.length).list) hQ7).below hD8
    simp only [List.setIfInBounds_toArray, List.set_cons_zero, List.set_cons_succ] at hL8
    have hK8 := (keeps_set W7 g7 0 (.string (at' (setTy Z.ts X.ts.length Z.par.list) X.ts.length).name)).same (keeps_set _ g7 1 (.bool (at' (setTy Z.ts X.ts.length Z.par.list) X.ts.length).list))
    have hS8 := ((HS7.out.setLoc HL7.out (List.mem_cons_self ..) 0 (.string (at' (setTy Z.ts X.ts.length Z.par.list) X.ts.length).name)).setLoc (HL7.out.set 0 (.string (at' (setTy Z.ts X.ts.length Z.par.list) X.ts.length).name) hQ7) (List.mem_cons_self ..) 1 (.bool (at' (setTy Z.ts X.ts.length Z.par.list) X.ts.length).list)).below hD8
    have hT8 := (HT7.out.young hK8 (fun k e => by omega)).below hD8
    have hst8 : Stays A6 A6 W7 ((W7.setCell ⟨g7, 0, none⟩ (.string (at' (setTy Z.ts X.ts.length Z.par.list) X.ts.length).name)).setCell ⟨g7, 1, none⟩ (.bool (at' (setTy Z.ts X.ts.length Z.par.list) X.ts.length).list)).drew := (hK8.drew 1).stays (fun k a _ e => (HL7.out _ (List.mem_cons_self ..)).2.1 (by rw [show g7 = k from (e : k = g7).symm]; exact a))
    have hbc8 : BdCells A6 ((W7.setCell ⟨g7, 0, none⟩ (.string (at' (setTy Z.ts X.ts.length Z.par.list) X.ts.length).name)).setCell ⟨g7, 1, none⟩ (.bool (at' (setTy Z.ts X.ts.length Z.par.list) X.ts.length).list)).drew (fun i => vat [.string (at' (setTy Z.ts X.ts.length Z.par.list) X.ts.length).name, .bool (at' (setTy Z.ts X.ts.length Z.par.list) X.ts.length).list, .int .u8 83, .int .i64 0, .string ⟨#[]⟩, .slice (some ⟨gs, 0, none⟩) 1 1, .slice ra nY rc, .slice rb nZ rd] i) (.mk (at' (setTy Z.ts X.ts.length Z.par.list) X.ts.length).name (at' (setTy Z.ts X.ts.length Z.par.list) X.ts.length).list 83 0 ByteArray.empty [X.par.name] (Y.bs ++ [varB (at' (setTy Y.ts X.ts.length Y.par.list) X.ts.length).name (at' (setTy Y.ts X.ts.length Y.par.list) X.ts.length).list Y.par.name]) (Z.bs ++ [varB (at' (setTy Z.ts X.ts.length Z.par.list) X.ts.length).name (at' (setTy Z.ts X.ts.length Z.par.list) X.ts.length).list Z.par.name])) :=
      ⟨rfl, rfl, rfl, rfl, rfl, HAa.out.stays hst8, HBa.out.stays hst8, HB7.out.stays hst8, hz2.2.2.ty _ _ _, ⟨by show (0 : Int) ≤ 83; omega, by show (83 : Int) ≤ 255; omega⟩, by show In64 0; unfold In64; omega, Nat.zero_le _⟩
    obtain ⟨p0, p1, p2, p3, p4, p5, p6, p7⟩ := cells8 (hL8.blk (List.mem_cons_self ..))
    obtain ⟨u0, u1⟩ := (VSt.ptr hS8).cell (VSt.out hS8)
    have hl7 := hL8.lt (List.mem_cons_self ..)
    have HL8 := Lib.hid hL8
    have HS8 := Lib.hid hS8
    have HT8 := Lib.hid hT8
    have HBC := Lib.hid hbc8
    clear hL8 hS8 hT8 hst8 hbc8 hK8 s0 s1 s2 s3 s4 s5 s6 s7 hfz n0 n1
    go_wp2
    generalize ((W7.setCell ⟨g7, 0, none⟩ (.string (at' (setTy Z.ts X.ts.length Z.par.list) X.ts.length).name)).setCell ⟨g7, 1, none⟩ (.bool (at' (setTy Z.ts X.ts.length Z.par.list) X.ts.length).list)).drew = W8 at *
    obtain ⟨xs, hrow, hcs⟩ := VSt.row HS8.out
    obtain ⟨ab, cb, rfl⟩ := row_form hrow
    have HCS := Lib.hid hcs
    have HROW := Lib.hid hrow
    have HX : Hid (xs.length = (bs ++ X.bs).length * 8) := Lib.hid hrow.1
    clear hcs hrow
    have hB : Below W8.heap.size W8 (W8.alloc (.cells #[.string ⟨#[]⟩, .bool false, .int .u8 0, .int .i64 0, .string ⟨#[]⟩, .slice none 0 0, .slice none 0 0, .slice none 0 0] 88)).drew := below_drewN ((Below.refl _ _).alloc (Nat.le_refl _) _) 1
    have HSRC := Lib.hid (src8 W8 (.string ⟨#[]⟩) (.bool false) (.int .u8 0) (.int .i64 0) (.string ⟨#[]⟩) (.slice none 0 0) (.slice none 0 0) (.slice none 0 0) 88)
    have HPN : Hid (∀ g cap, NewOr (W8.alloc (.cells #[.string ⟨#[]⟩, .bool false, .int .u8 0, .int .i64 0, .string ⟨#[]⟩, .slice none 0 0, .slice none 0 0, .slice none 0 0] 88)).drew (.slice ab (bs ++ X.bs).length cb) (.slice (some ⟨g, 0, none⟩) ((bs ++ X.bs).length + 1) cap) → g ≠ pb) := Lib.hid (by
      intro g cap hn e
      subst e
      rcases hn g rfl with e | e
      · exact VSt.bvpb HS8.out e
      · have := VSt.mutlt HS8.out g (.inr (.inr (.inl rfl)))
        have := hB.size
        omega)
    have hbl : (bs ++ X.bs).length < 200000 := by rw [List.length_append]; omega
    have hil : ((bs ++ X.bs).length : Int) < ((bs ++ X.bs).length : Int) + 1 := by omega
    have hlp := VSt.mutlt HS8.out pb (.inr (.inr (.inl rfl)))
    have k0 := (hB.cell (p := ⟨g7, 0, none⟩) hl7).trans p0
    have k1 := (hB.cell (p := ⟨g7, 1, none⟩) hl7).trans p1
    have k2 := (hB.cell (p := ⟨g7, 2, none⟩) hl7).trans p2
    have k3 := (hB.cell (p := ⟨g7, 3, none⟩) hl7).trans p3
    have k4 := (hB.cell (p := ⟨g7, 4, none⟩) hl7).trans p4
    have k5 := (hB.cell (p := ⟨g7, 5, none⟩) hl7).trans p5
    have k6 := (hB.cell (p := ⟨g7, 6, none⟩) hl7).trans p6
    have k7 := (hB.cell (p := ⟨g7, 7, none⟩) hl7).trans p7
    have kp := (hB.cell (p := ⟨pb, po, none⟩) hlp).trans u0
    generalize hBe : bs ++ X.bs = B at *
    have HBE := Lib.hid hBe
    clear hBe
    go_cut [53] (fun s53 wx => BindPost A6 W8 C.bV C.bo C.bm pb po (N + 2 * sizeN (at' n.kids 0) + 2 * sizeN (at' n.kids 1) + 2 * sizeN (at' n.kids 2)) C.c0 C.c1 C.c2 c41 C.c5 tv6 (.slice ab B.length cb) C.lv C.lib (setTy Z.ts X.ts.length Z.par.list) (B ++ [(.mk (at' (setTy Z.ts X.ts.length Z.par.list) X.ts.length).name (at' (setTy Z.ts X.ts.length Z.par.list) X.ts.length).list 83 0 ByteArray.empty [X.par.name] (Y.bs ++ [varB (at' (setTy Y.ts X.ts.length Y.par.list) X.ts.length).name (at' (setTy Y.ts X.ts.length Y.par.list) X.ts.length).list Y.par.name]) (Z.bs ++ [varB (at' (setTy Z.ts X.ts.length Z.par.list) X.ts.length).name (at' (setTy Z.ts X.ts.length Z.par.list) X.ts.length).list Z.par.name]))]) Z.env wx)
    case first =>
      go_region_law (
        (refine step_append TBd (by rfl) (by decide) (by rfl) (.tmp 49) (.tmp 52) (by rfl) (by rfl) (by rfl) (row_below HROW.out hB) (.inr ⟨⟨W8.heap.size, 0, none⟩, 1, by rfl, HSRC.out⟩) (by rfl) (by simp [Value.oneCell']) (by unfold maxLen; omega) (by omega) (Nat.zero_le _) ?_; intro v' w9 hown hg hnew; obtain ⟨g, cap, rfl, hglt, hfz, y0, y1, y2, y3, y4, y5, y6, y7⟩ := last8 hown HX.out; have hgp := HPN.out g cap hnew; have HP := Lib.hid (VSt.stored HS8.out hB hg hnew hown HX.out rfl HCS.out HBC.out); obtain ⟨x0, x1⟩ := VSt.headAt HS8.out hB hg; clear hown hg hnew))
      all_goals
        clear y0 y1 y2 y3 y4 y5 y6 y7 x0 x1 k0 k1 k2 k3 k4 k5 k6 k7 kp p0 p1 p2 p3 p4 p5 p6 p7 hil
        go_wp2
        go_meet
        refine ⟨_, HP.out _ ?_⟩
        first | (left; with_reducible rfl) | (right; with_reducible rfl)
    case rest =>
      obtain ⟨v', c4', hVX, hkX, hnX, hcX⟩ := hcut
      have hTX : Step C pb A6 W8 tv6 (.slice ab B.length cb) c41 A6 wc tv6 v' c4' := ⟨hkX, fun _ a => a, fun _ a => .inl a, NewOr.refl _ _, hnX, hcX⟩
      have hSX : St C pb po A6 wc tv6 v' c4' _ _ Z.env _ := hVX
      have hLX := (HL8.out.step hTX).sub (L' := [(w.heap.size + 1 + 1, .cells #[.string ⟨#[]⟩, .bool false] 57 (0, 0)), (w2.heap.size + 1, .cells #[.string (at' (setTy Z.ts X.ts.length Z.par.list) X.ts.length).name, .bool (at' (setTy Z.ts X.ts.length Z.par.list) X.ts.length).list] 57 (0, 0))]) (by simp)
      have hTX' := HT8.out.trans hTX
      have hR := hLX.blk (List.mem_cons_self ..)
      have r0 : wc.cell? ⟨w.heap.size + 1 + 1, 0, none⟩ = some (.string ⟨#[]⟩) := cell_blk hR 0 rfl
      have r1 : wc.cell? ⟨w.heap.size + 1 + 1, 1, none⟩ = some (.bool false) := cell_blk hR 1 rfl
      have f0 := unfrozen hR 0
      have f1 := unfrozen hR 1
      have hY := hLX.blk (List.mem_cons_of_mem _ (List.mem_cons_self ..))
      have y0 : wc.cell? ⟨w2.heap.size + 1, 0, none⟩ = some (.string (at' (setTy Z.ts X.ts.length Z.par.list) X.ts.length).name) := cell_blk hY 0 rfl
      have y1 : wc.cell? ⟨w2.heap.size + 1, 1, none⟩ = some (.bool (at' (setTy Z.ts X.ts.length Z.par.list) X.ts.length).list) := cell_blk hY 1 rfl
      have HSX := Lib.hid hSX
      have HLX := Lib.hid hLX
      clear k0 k1 k2 k3 k4 k5 k6 k7 kp p0 p1 p2 p3 p4 p5 p6 p7 hil u0 u1 hVX hR hY hSX hLX
      go_wp2
      have hL9 := HLX.out.set 0 (.string (at' (setTy Z.ts X.ts.length Z.par.list) X.ts.length).name) (by simp; omega)
      have hLA := hL9.set 1 (.bool (at' (setTy Z.ts X.ts.length Z.par.list) X.ts.length).list) (by simp; omega)
      have hSA := (HSX.out.setLoc HLX.out (List.mem_cons_self ..) 0 (.string (at' (setTy Z.ts X.ts.length Z.par.list) X.ts.length).name)).setLoc hL9 (List.mem_cons_self ..) 1 (.bool (at' (setTy Z.ts X.ts.length Z.par.list) X.ts.length).list)
      (try simp only [Exit.inBlock, Exit.then])
      refine bodyPost_ret (results_cell_row (P := Tryz.prog) rfl _ _ (w.heap.size + 1 + 1) _ _ _ _ rfl (hLA.blk (List.mem_cons_self ..)) Tryz.underlying57 rfl (by kernel_rfl)) rfl ?_
      rw [expr_if_eq C.lib n env ts H83.out HK3.out HXE.out HYE.out rfl HZE.out rfl]
      refine ⟨rfl, A6, tv6, v', c4', ?_, ?_⟩
      · rw [← List.append_assoc, HBE.out]; exact hSA.mono (by have := HSZ.out; omega)
      · exact hTX'.young ((keeps_set _ (w.heap.size + 1 + 1) 0 _).same (keeps_set _ (w.heap.size + 1 + 1) 1 _)) (fun k e => by omega)
end Go.Proofs.YtehmmokkjojggabGreatDoor
/- The visitor of package anf: expr, whole. -/
namespace Go.Proofs.YtehmmokkjojggabGreatDoor
set_option linter.unusedVariables false
open Go.RowKit

set_option maxRecDepth 100000 in
set_option maxHeartbeats 3200000 in
theorem expr_choice (m : Nat) (ih : XOk m) (C : VC) (n : Nd) (v : Value) (pb po : Nat) (A : Nat → Prop) (w : World) (tv bv c4 : Value) (ts : List Par) (bs : List Bd) (env : Env) (N : Nat) (hkd : n.kind = 83) (hm : sizeN n ≤ m + 1) (hform : formedN n = true) (hkn : knownN C.lib n = true) (hv : NdAt A w v n) (hst : St C pb po A w tv bv c4 ts bs env N)
    (hse : SmallE env) (hts : TsSmall ts) (hl1 : ts.length + 2 * sizeN n ≤ 100000) (hl2 : bs.length + 2 * sizeN n ≤ 100000) (hl3 : N + 2 * sizeN n ≤ 100000) :
    Calls Tryz.prog 114 #[.pointer (some ⟨C.bV, 0, none⟩), v, .pointer (some ⟨pb, po, none⟩)] w (XPost C pb po A w tv bv c4 bs (N + 2 * sizeN n) (exprN C.lib n env ts)) := by
  obtain ⟨hok, hlen, ka, kc, rfl, hk⟩ := hv.open
  have d81 : (n.kind == 81) = false := by simp [hkd]
  have d84 : (n.kind == 84) = false := by simp [hkd]
  have d83 : (n.kind == 83) = true := by simpa using hkd
  have HL := Lib.hid (Locs.two hst (.cells #[.int .u8 n.kind, .int .i64 n.num, .string n.name, .slice ka n.kids.length kc] 35) (.cells #[.string ⟨#[]⟩, .bool false] 57))
  have hA : Below w.heap.size w ((w.alloc (.cells #[.int .u8 n.kind, .int .i64 n.num, .string n.name, .slice ka n.kids.length kc] 35)).alloc (.cells #[.string ⟨#[]⟩, .bool false] 57)) := ((Below.refl _ _).alloc (Nat.le_refl _) _).alloc (by simp) _
  have hT0 := (Step.refl C pb A w tv bv c4).below hA
  have HC := Lib.hid (choice_st m ih C n _ pb po A _ tv bv c4 ts bs env N hkd hm hform hkn (hv.stays (Stays.of_below hA)) (hst.below hA) hse hts hl1 hl2 hl3)
  clear hkd hst hk hform hkn hv
  go_enter Tryz.func114, Tryz.ntmps114
  go_wp2_with (go_at_call 131; refine HC.out.mono ?_; rintro e w5 ⟨rfl, A5, tv5, bv5, c45, hS5, hT5⟩; have hL5 := (HL.out.step hT5).sub (L' := [(w.heap.size + 1, .cells #[.string ⟨#[]⟩, .bool false] 57)]) (by simp); have hR5 := hL5.blk (List.mem_cons_self ..); have r0 : w5.cell? ⟨w.heap.size + 1, 0, none⟩ = some (.string ⟨#[]⟩) := cell_blk hR5 0 rfl; have r1 : w5.cell? ⟨w.heap.size + 1, 1, none⟩ = some (.bool false) := cell_blk hR5 1 rfl; have f0 := unfrozen hR5 0; have f1 := unfrozen hR5 1; have HS5 := Lib.hid hS5; have HL5 := Lib.hid hL5; have HT5 := Lib.hid (hT0.trans hT5); clear hR5 hS5 hL5 hT5)
  generalize exprN C.lib n env ts = X at *
  (try simp only [Exit.inBlock, Exit.then])
  have hL6 := HL5.out.set 0 (.string X.par.name) (by simp)
  have hL7 := hL6.set 1 (.bool X.par.list) (by simp)
  have hS7 := (HS5.out.setLoc HL5.out (List.mem_cons_self ..) 0 (.string X.par.name)).setLoc hL6 (List.mem_cons_self ..) 1 (.bool X.par.list)
  refine bodyPost_ret (results_cell_row (P := Tryz.prog) rfl _ _ (w.heap.size + 1) _ _ _ _ rfl (hL7.blk (List.mem_cons_self ..)) Tryz.underlying57 rfl (by kernel_rfl)) rfl ?_
  exact ⟨rfl, A5, tv5, bv5, c45, hS7, HT5.out.young ((keeps_set _ (w.heap.size + 1) 0 _).same (keeps_set _ (w.heap.size + 1) 1 _)) (fun k e => by omega)⟩

set_option maxRecDepth 100000 in
set_option maxHeartbeats 3200000 in
theorem expr_call (m : Nat) (ih : XOk m) (C : VC) (n : Nd) (v : Value) (pb po : Nat) (A : Nat → Prop) (w : World) (tv bv c4 : Value) (ts : List Par) (bs : List Bd) (env : Env) (N : Nat) (hkd : n.kind = 85) (hm : sizeN n ≤ m + 1) (hform : formedN n = true) (hkn : knownN C.lib n = true) (hv : NdAt A w v n) (hst : St C pb po A w tv bv c4 ts bs env N)
    (hse : SmallE env) (hts : TsSmall ts) (hl1 : ts.length + 2 * sizeN n ≤ 100000) (hl2 : bs.length + 2 * sizeN n ≤ 100000) (hl3 : N + 2 * sizeN n ≤ 100000) :
    Calls Tryz.prog 114 #[.pointer (some ⟨C.bV, 0, none⟩), v, .pointer (some ⟨pb, po, none⟩)] w (XPost C pb po A w tv bv c4 bs (N + 2 * sizeN n) (exprN C.lib n env ts)) := by
  obtain ⟨hok, hlen, ka, kc, rfl, hk⟩ := hv.open
  have d81 : (n.kind == 81) = false := by simp [hkd]
  have d84 : (n.kind == 84) = false := by simp [hkd]
  have d83 : (n.kind == 83) = false := by simp [hkd]
  have d85 : (n.kind == 85) = true := by simpa using hkd
  have HL := Lib.hid (Locs.two hst (.cells #[.int .u8 n.kind, .int .i64 n.num, .string n.name, .slice ka n.kids.length kc] 35) (.cells #[.string ⟨#[]⟩, .bool false] 57))
  have hA : Below w.heap.size w ((w.alloc (.cells #[.int .u8 n.kind, .int .i64 n.num, .string n.name, .slice ka n.kids.length kc] 35)).alloc (.cells #[.string ⟨#[]⟩, .bool false] 57)) := ((Below.refl _ _).alloc (Nat.le_refl _) _).alloc (by simp) _
  have hT0 := (Step.refl C pb A w tv bv c4).below hA
  have HC := Lib.hid (call_st m ih C n _ pb po A _ tv bv c4 ts bs env N hkd hm hform hkn (hv.stays (Stays.of_below hA)) (hst.below hA) hse hts hl1 hl2 hl3)
  clear hkd hst hk hform hkn hv
  go_enter Tryz.func114, Tryz.ntmps114
  go_wp2_with (go_at_call 132; refine HC.out.mono ?_; rintro e w5 ⟨rfl, A5, tv5, bv5, c45, hS5, hT5⟩; have hL5 := (HL.out.step hT5).sub (L' := [(w.heap.size + 1, .cells #[.string ⟨#[]⟩, .bool false] 57)]) (by simp); have hR5 := hL5.blk (List.mem_cons_self ..); have r0 : w5.cell? ⟨w.heap.size + 1, 0, none⟩ = some (.string ⟨#[]⟩) := cell_blk hR5 0 rfl; have r1 : w5.cell? ⟨w.heap.size + 1, 1, none⟩ = some (.bool false) := cell_blk hR5 1 rfl; have f0 := unfrozen hR5 0; have f1 := unfrozen hR5 1; have HS5 := Lib.hid hS5; have HL5 := Lib.hid hL5; have HT5 := Lib.hid (hT0.trans hT5); clear hR5 hS5 hL5 hT5)
  generalize exprN C.lib n env ts = X at *
  (try simp only [Exit.inBlock, Exit.then])
  have hL6 := HL5.out.set 0 (.string X.par.name) (by simp)
  have hL7 := hL6.set 1 (.bool X.par.list) (by simp)
  have hS7 := (HS5.out.setLoc HL5.out (List.mem_cons_self ..) 0 (.string X.par.name)).setLoc hL6 (List.mem_cons_self ..) 1 (.bool X.par.list)
  refine bodyPost_ret (results_cell_row (P := Tryz.prog) rfl _ _ (w.heap.size + 1) _ _ _ _ rfl (hL7.blk (List.mem_cons_self ..)) Tryz.underlying57 rfl (by kernel_rfl)) rfl ?_
  exact ⟨rfl, A5, tv5, bv5, c45, hS7, HT5.out.young ((keeps_set _ (w.heap.size + 1) 0 _).same (keeps_set _ (w.heap.size + 1) 1 _)) (fun k e => by omega)⟩

/-- expr, at every tree -/
theorem expr_ok : ∀ m, XOk m
  | 0 => fun C n v pb po A w tv bv c4 ts bs env N hm => by have := size_pos n; omega
  | m + 1 => fun C n v pb po A w tv bv c4 ts bs env N hm hform hkn hv hst hse hts hl1 hl2 hl3 => by
    by_cases h81 : n.kind = 81
    · exact expr_var C n v pb po A w tv bv c4 ts bs env N h81 hv hst
    · by_cases h84 : n.kind = 84
      · exact expr_let m (expr_ok m) C n v pb po A w tv bv c4 ts bs env N h84 hm hform hkn hv hst hse hts hl1 hl2 hl3
      · by_cases h83 : n.kind = 83
        · exact expr_choice m (expr_ok m) C n v pb po A w tv bv c4 ts bs env N h83 hm hform hkn hv hst hse hts hl1 hl2 hl3
        · by_cases h85 : n.kind = 85
          · exact expr_call m (expr_ok m) C n v pb po A w tv bv c4 ts bs env N h85 hm hform hkn hv hst hse hts hl1 hl2 hl3
          · exact expr_op m (expr_ok m) C n v pb po A w tv bv c4 ts bs env N h81 h84 h83 h85 hm hform hkn hv hst hse hts hl1 hl2 hl3
end Go.Proofs.YtehmmokkjojggabGreatDoor
/- Walks of package anf: slices.Clone at parameters, and what normalize leaves. -/
namespace Go.Proofs.YtehmmokkjojggabGreatDoor
set_option linter.unusedVariables false
open Go.RowKit

theorem Stays.any {A : Nat → Prop} {w w' : World} (h : Below w.heap.size w w') : Stays A Any w w' := ⟨h.size, fun b hb _ => ⟨h.block b hb, trivial⟩⟩

/-- a row of parameters of the call's own, as one that stays -/
theorem pars_of_row {A : Nat → Prop} {w : World} {base : Nat} {v : Value} {l : List Par} (h : w.ownsRow base 57 2 v l.length (parCells l)) (hA : ∀ k, v.ownBlock = some k → A k) (hl : l.length ≤ maxLen) (hs : ∀ j, (at' l j).name.size ≤ maxLen) : ParsAt A w v l := by
  refine ⟨fun j i => if i = 0 then .string (at' l j).name else .bool (at' l j).list, ⟨hl, ?_⟩, fun j hj => ⟨rfl, rfl, hs j⟩⟩
  obtain ⟨h0, ⟨rfl, h1⟩ | ⟨g, cap, cur, rfl, hg, hh, hn, hm, hc, ht⟩⟩ := id h
  · exact ⟨none, 0, by rw [h1], by omega, fun _ => rfl, fun h => by omega⟩
  · refine ⟨_, cap, rfl, hn, nofun, fun hp => ⟨g, 0, rfl, by rw [Array.getElem?_eq_some_iff] at hh; exact hh.1, hA g rfl, fun j hj i hi => ?_⟩⟩
    obtain ⟨g', cap', cur', he, _, _, _, _, _, _, hcl⟩ := row_cell h (by omega)
    simp only [Value.slice.injEq, Option.some.injEq, Addr.mk.injEq, and_true] at he
    obtain ⟨rfl, -, -⟩ := he
    obtain ⟨m0, m1⟩ := parCells_at l j hj
    match i, hi with
    | 0, _ => have := hcl _ _ m0; simpa using this
    | 1, _ => have := hcl _ _ m1; simpa using this

theorem ParsAt.cells {A : Nat → Prop} {w : World} {a : Addr} {l : List Par} {c : Nat} (h : ParsAt A w (.slice (some a) l.length c) l) (hp : 0 < l.length) : ∀ j u, (parCells l)[j]? = some u → w.cell? (a.add j) = some u := by
  intro j u hj
  have hjl : j < l.length * 2 := by
    rw [← parCells_len]
    rcases Nat.lt_or_ge j (parCells l).length with h | h
    · exact h
    · rw [List.getElem?_eq_none h] at hj; simp at hj
  obtain ⟨b, off, cap, he, hb, _, _, c0, c1, _⟩ := h.at (j := j / 2) (by omega)
  simp only [Value.slice.injEq, Option.some.injEq] at he
  obtain ⟨rfl, -, -⟩ := he
  obtain ⟨m0, m1⟩ := parCells_at l (j / 2) (by omega)
  have ea : (⟨b, off, none⟩ : Addr).add j = ⟨b, off + j, none⟩ := by
    simp only [Addr.add]; split
    · subst_vars; rfl
    · rfl
  rw [ea]
  rcases Nat.mod_two_eq_zero_or_one j with e | e
  · have e2 : j / 2 * 2 = j := by omega
    rw [e2] at m0 c0
    rw [hj] at m0
    simp only [Option.some.injEq] at m0
    rw [c0, m0]
  · have e2 : j / 2 * 2 + 1 = j := by omega
    rw [e2] at m1
    rw [show off + j / 2 * 2 + 1 = off + j by omega] at c1
    rw [hj] at m1
    simp only [Option.some.injEq] at m1
    rw [c1, m1]

set_option maxRecDepth 100000 in
set_option maxHeartbeats 800000 in
theorem clone_pars (v : Value) (l : List Par) (A : Nat → Prop) (w : World) (hv : ParsAt A w v l) (hl : l.length ≤ 100000) :
    Calls Tryz.prog 110 #[v] w fun e w' => ∃ v', e = .returned v' ∧ ParsAt (fun k => v'.ownBlock = some k) w' v' l ∧ Below w.heap.size w w' ∧ (∀ k, v'.ownBlock = some k → w.heap.size ≤ k ∧ k < w'.heap.size) := by
  obtain ⟨hll, a, c, rfl⟩ := hv.form
  have hsm : ∀ j, (at' l j).name.size ≤ maxLen := fun j => by
    by_cases hj : j < l.length
    · obtain ⟨_, _, _, _, _, _, _, _, _, h⟩ := hv.at hj; exact h
    · have : at' l j = default := by simp only [at', List.getD_eq_getElem?_getD]; rw [List.getElem?_eq_none (by omega)]; rfl
      rw [this]; exact Nat.zero_le _
  have HSM := Lib.hid hsm
  clear hsm
  cases a with
  | none =>
    have hl0 : l.length = 0 := by
      obtain ⟨cs, ⟨h0, a', cap', he, h1, h2, h3⟩, _⟩ := hv
      simp only [Value.slice.injEq] at he
      obtain ⟨rfl, -, rfl⟩ := he
      have := h2 rfl; omega
    have hnil : l = [] := List.eq_nil_of_length_eq_zero hl0
    subst hnil
    have hc0 : c = 0 := by
      obtain ⟨cs, ⟨h0, a', cap', he, h1, h2, h3⟩, _⟩ := hv
      simp only [Value.slice.injEq] at he
      obtain ⟨rfl, -, rfl⟩ := he
      exact h2 rfl
    subst hc0
    have heq := fun (w : World) => Lib.run_eql_slice_nil (P := Tryz.prog) w 28 57 none 0 0 0 0 Tryz.underlying28
    go_enter Tryz.func110, Tryz.ntmps110
    go_wp2
    go_ret
    exact ⟨_, rfl, ⟨fun _ _ => undef, RowAt.empty _ _ _, fun j hj => by simp at hj⟩, Below.refl _ _, fun k e => by simp [Value.ownBlock] at e⟩
  | some ad =>
    have HV := Lib.hid hv
    clear hv
    have hB : Below w.heap.size w (w.alloc (.cells #[] 57)) := (Below.refl _ _).alloc (Nat.le_refl _) _
    have HRW : Hid ((w.alloc (.cells #[] 57)).ownsRow w.heap.size 57 2 (.slice (some ⟨w.heap.size, 0, none⟩) 0 0) 0 []) := Lib.hid ⟨rfl, .inr ⟨w.heap.size, 0, #[], rfl, Nat.le_refl _, heap_alloc_new w _, Nat.le_refl _, by unfold maxLen; omega, rfl, rfl⟩⟩
    have HSRC : Hid (Value.slice (some ad) l.length c = .slice none 0 0 ∧ l.length = 0 ∧ parCells l = [] ∨ ∃ ad' c', Value.slice (some ad) l.length c = .slice (some ad') l.length c' ∧ ∀ j u, (parCells l)[j]? = some u → (w.alloc (.cells #[] 57)).cell? (ad'.add j) = some u) := Lib.hid (by
      refine .inr ⟨ad, c, rfl, ?_⟩
      by_cases hp : 0 < l.length
      · exact (HV.out.stays (Stays.of_below hB)).cells hp
      · obtain rfl : l = [] := List.eq_nil_of_length_eq_zero (by omega)
        intro j u hj; simp [parCells] at hj)
    have heq := fun (w : World) => Lib.run_eql_slice_nil (P := Tryz.prog) w 28 57 (some ad) l.length c 0 0 Tryz.underlying28
    go_enter Tryz.func110, Tryz.ntmps110
    go_wp2_with (at_builtin; refine wpl_append TPar rfl (by decide) rfl (.tmp 5) (.tmp 6) rfl rfl rfl HRW.out HSRC.out (parCells_len l) (by intro u hu; simp only [parCells, List.mem_flatMap] at hu; obtain ⟨p, _, hp⟩ := hu; simp at hp; rcases hp with rfl | rfl <;> rfl) (by unfold maxLen; omega) (by omega) (by simp) ?_; intro v' w2 hown hg hn; have HO := Lib.hid hown; have HG : Hid ((w.alloc (.cells #[] 57)).grownBy w2 (some w.heap.size)) := Lib.hid hg; clear hown hg hn)
    go_ret
    have hown := HO.out
    rw [Nat.zero_add, List.nil_append] at hown
    have hBB : Below w.heap.size w w2 := hB.grown HG.out (by simp) (fun k e => by
      have e2 : w.heap.size = k := by simpa using e
      omega)
    exact ⟨_, rfl, pars_of_row hown (fun _ e => e) hll HSM.out, hBB, fun k e => hown.lt k e⟩
end Go.Proofs.YtehmmokkjojggabGreatDoor
/- Walks of package anf: normalize. -/
namespace Go.Proofs.YtehmmokkjojggabGreatDoor
set_option linter.unusedVariables false
open Go.RowKit

theorem parsEnv_snoc (l : List Par) (k : Nat) (h : k < l.length) : parsEnv (l.take (k + 1)) = (parsEnv (l.take k)).put (at' l k).name (at' l k) := by
  rw [List.take_add_one, List.getElem?_eq_getElem h, parsEnv, parsEnv, List.foldl_append, at_eq h]; rfl
theorem parsEnv_small (l : List Par) (h : ∀ j, j < l.length → (at' l j).name.size ≤ maxLen) : ∀ k, k ≤ l.length → SmallE (parsEnv (l.take k))
  | 0, _ => fun s p e => by simp [parsEnv] at e
  | k + 1, hk => by rw [parsEnv_snoc l k (by omega)]; exact (parsEnv_small l h k (by omega)).put _ (h k (by omega))

/-- the function under way is laid out -/
def NmA (w : World) (f : Fn) (pa ka : Option Addr) (pc kc : Nat) (s5 : Value) (wx : World) : Prop :=
  ∃ bo pv, s5 = .pointer (some ⟨bo, 0, none⟩) ∧ Below w.heap.size w wx ∧ w.heap.size + 1 < bo ∧ wx.heap[bo]? = some (.cells #[.string f.name, pv, .bool f.list, .slice none 0 0, .slice none 0 0, .string ⟨#[]⟩] 31 (0, 0)) ∧
    ParsAt (fun k => pv.ownBlock = some k) wx pv f.params ∧ (∀ k, pv.ownBlock = some k → w.heap.size + 1 < k ∧ k ≠ bo ∧ k < wx.heap.size) ∧ (∃ a c, pv = .slice a f.params.length c) ∧
    wx.heap[w.heap.size]? = some (.cells #[.string f.name, .slice pa f.params.length pc, .bool f.list, .int .u8 f.body.kind, .int .i64 f.body.num, .string f.body.name, .slice ka f.body.kids.length kc] 37 (0, 0)) ∧
    wx.heap[w.heap.size + 1]? = some (.cells #[.string ⟨#[]⟩, .slice none 0 0, .bool false, .slice none 0 0, .slice none 0 0, .string ⟨#[]⟩] 31 (0, 0))

theorem nmA1 {w W w1 : World} {f : Fn} {pa ka av : Option Addr} {pc kc cv : Nat} (hA : Below w.heap.size w W) (hWs : W.heap.size = w.heap.size + 1 + 1) (n0 : W.heap[w.heap.size]? = some (.cells #[.string f.name, .slice pa f.params.length pc, .bool f.list, .int .u8 f.body.kind, .int .i64 f.body.num, .string f.body.name, .slice ka f.body.kids.length kc] 37 (0, 0))) (n1 : W.heap[w.heap.size + 1]? = some (.cells #[.string ⟨#[]⟩, .slice none 0 0, .bool false, .slice none 0 0, .slice none 0 0, .string ⟨#[]⟩] 31 (0, 0))) (hb1 : Below W.heap.size W w1)
    (hpv : ParsAt (fun k => (Value.slice av f.params.length cv).ownBlock = some k) w1 (.slice av f.params.length cv) f.params) (hpk : ∀ k, (Value.slice av f.params.length cv).ownBlock = some k → W.heap.size ≤ k ∧ k < w1.heap.size) :
    NmA w f pa ka pc kc (.pointer (some ⟨w1.heap.size, 0, none⟩)) (w1.alloc (.cells #[.string f.name, .slice av f.params.length cv, .bool f.list, .slice none 0 0, .slice none 0 0, .string ⟨#[]⟩] 31 (0, 0))) := by
  have hB : Below w1.heap.size w1 (w1.alloc (.cells #[.string f.name, .slice av f.params.length cv, .bool f.list, .slice none 0 0, .slice none 0 0, .string ⟨#[]⟩] 31 (0, 0))) := (Below.refl _ _).alloc (Nat.le_refl _) _
  have hz := hb1.size
  have hz2 := hB.size
  have hbW : Below W.heap.size W (w1.alloc (.cells #[.string f.name, .slice av f.params.length cv, .bool f.list, .slice none 0 0, .slice none 0 0, .string ⟨#[]⟩] 31 (0, 0))) := hb1.trans (hB.mono hz)
  refine ⟨_, _, rfl, hA.trans (hbW.mono hA.size), by omega, heap_alloc_new w1 _, hpv.stays ⟨hB.size, fun b hb a => ⟨hB.block b hb, a⟩⟩, fun k e => ?_, ⟨_, _, rfl⟩, (hbW.block _ (by omega)).trans n0, (hbW.block _ (by omega)).trans n1⟩
  have := hpk k e
  exact ⟨by omega, by omega, by omega⟩
theorem nmA2 {w W w1 : World} {f : Fn} {pa ka av : Option Addr} {pc kc cv : Nat} (hA : Below w.heap.size w W) (hWs : W.heap.size = w.heap.size + 1 + 1) (n0 : W.heap[w.heap.size]? = some (.cells #[.string f.name, .slice pa f.params.length pc, .bool f.list, .int .u8 f.body.kind, .int .i64 f.body.num, .string f.body.name, .slice ka f.body.kids.length kc] 37 (0, 0))) (n1 : W.heap[w.heap.size + 1]? = some (.cells #[.string ⟨#[]⟩, .slice none 0 0, .bool false, .slice none 0 0, .slice none 0 0, .string ⟨#[]⟩] 31 (0, 0))) (hb1 : Below W.heap.size W w1)
    (hpv : ParsAt (fun k => (Value.slice av f.params.length cv).ownBlock = some k) w1 (.slice av f.params.length cv) f.params) (hpk : ∀ k, (Value.slice av f.params.length cv).ownBlock = some k → W.heap.size < k ∧ k < w1.heap.size) (hzb : w1.heap[W.heap.size]? = some (.cells #[.string ⟨#[]⟩, .slice none 0 0, .bool false, .slice none 0 0, .slice none 0 0, .string ⟨#[]⟩] 31 (0, 0))) :
    NmA w f pa ka pc kc (.pointer (some ⟨W.heap.size, 0, none⟩)) ((((((w1.setCell ⟨W.heap.size, 0, none⟩ (.string f.name)).setCell ⟨W.heap.size, 1, none⟩ (.slice av f.params.length cv)).setCell ⟨W.heap.size, 2, none⟩ (.bool f.list)).setCell ⟨W.heap.size, 3, none⟩ (.slice none 0 0)).setCell ⟨W.heap.size, 4, none⟩ (.slice none 0 0)).setCell ⟨W.heap.size, 5, none⟩ (.string ⟨#[]⟩)) := by
  have hK : Keeps w1 ((((((w1.setCell ⟨W.heap.size, 0, none⟩ (.string f.name)).setCell ⟨W.heap.size, 1, none⟩ (.slice av f.params.length cv)).setCell ⟨W.heap.size, 2, none⟩ (.bool f.list)).setCell ⟨W.heap.size, 3, none⟩ (.slice none 0 0)).setCell ⟨W.heap.size, 4, none⟩ (.slice none 0 0)).setCell ⟨W.heap.size, 5, none⟩ (.string ⟨#[]⟩)) (fun k => k = W.heap.size) := (((((keeps_set w1 W.heap.size 0 (.string f.name)).same (keeps_set _ W.heap.size 1 (.slice av f.params.length cv))).same (keeps_set _ W.heap.size 2 (.bool f.list))).same (keeps_set _ W.heap.size 3 (.slice none 0 0))).same (keeps_set _ W.heap.size 4 (.slice none 0 0))).same (keeps_set _ W.heap.size 5 (.string ⟨#[]⟩))
  have hz := hb1.size
  have h6 := heap_setCell_same _ W.heap.size 5 _ _ (.string ⟨#[]⟩) (heap_setCell_same _ W.heap.size 4 _ _ (.slice none 0 0) (heap_setCell_same _ W.heap.size 3 _ _ (.slice none 0 0) (heap_setCell_same _ W.heap.size 2 _ _ (.bool f.list) (heap_setCell_same _ W.heap.size 1 _ _ (.slice av f.params.length cv) (heap_setCell_same w1 W.heap.size 0 _ _ (.string f.name) hzb)))))
  simp only [List.setIfInBounds_toArray, List.set_cons_zero, List.set_cons_succ] at h6
  have hlt : W.heap.size < w1.heap.size := by rw [Array.getElem?_eq_some_iff] at hzb; exact hzb.1
  have hbW : Below W.heap.size W ((((((w1.setCell ⟨W.heap.size, 0, none⟩ (.string f.name)).setCell ⟨W.heap.size, 1, none⟩ (.slice av f.params.length cv)).setCell ⟨W.heap.size, 2, none⟩ (.bool f.list)).setCell ⟨W.heap.size, 3, none⟩ (.slice none 0 0)).setCell ⟨W.heap.size, 4, none⟩ (.slice none 0 0)).setCell ⟨W.heap.size, 5, none⟩ (.string ⟨#[]⟩)) := hb1.trans (hK.below (fun k e => by omega) hz)
  refine ⟨_, _, rfl, hA.trans (hbW.mono hA.size), by omega, h6, hpv.stays (hK.stays (fun k a _ e => by have := (hpk k a).1; omega)), fun k e => ?_, ⟨_, _, rfl⟩, (hbW.block _ (by omega)).trans n0, (hbW.block _ (by omega)).trans n1⟩
  have := hpk k e
  have := hK.size
  exact ⟨by omega, by omega, by omega⟩

/-- the block of the library's table -/
def TabK (k : Nat) : Prop := Tryz.prog.globalNamed "internal/strconv.uint64pow10" = some k
/-- where new data may lie -/
def NewA (A : Nat → Prop) (w : World) (k : Nat) : Prop := A k ∨ w.heap.size ≤ k ∨ TabK k

/-- the state in which the body is normalized -/
theorem st_begin {w wr : World} {A : Nat → Prop} {bo bm bV N : Nat} {lib : List Fn} {env : Env} {c0 pv c2 c5 lv : Value} (hl : FnsAt A w lv lib) (hbl : Below w.heap.size w wr) (hbo : wr.heap[bo]? = some (.cells #[c0, pv, c2, .slice none 0 0, .slice none 0 0, c5] 31 (0, 0))) (hvis : VisB wr bV bo bm lv)
    (hm : SMapLe Tryz.prog 9 wr bm (fun s => (env s).map parV) N) (ht : Tab w) (d1 : w.heap.size ≤ bo) (d2 : w.heap.size ≤ bm) (d4 : bV ≠ bo) (d5 : bV ≠ bm) (d6 : bo ≠ bm) (hpk : ∀ k, pv.ownBlock = some k → k ≠ bo ∧ k ≠ bm ∧ k < wr.heap.size) :
    St ⟨bV, bo, bm, c0, pv, c2, c5, lv, lib⟩ bo 4 (fun k => (A k ∧ k < w.heap.size) ∨ k = bV ∨ pv.ownBlock = some k ∨ TabK k) wr (.slice none 0 0) (.slice none 0 0) (.slice none 0 0) [] [] env N := by
  have hnone : ∀ k, (Value.slice none 0 0).ownBlock ≠ some k := fun k e => by simp [Value.ownBlock] at e
  exact {
    out := ⟨hbo, World.ownsRow_nil _ _ _ _, hnone _⟩
    vis := hvis
    lib := hl.stays ⟨hbl.size, fun b hb a => ⟨hbl.block b hb, .inl ⟨a, hb⟩⟩⟩
    map := hm
    ptr := .inl ⟨rfl, rfl, rfl⟩
    row := BdsOwn.nil _
    tab := ht.below hbl
    tabA := fun g e => .inr (.inr (.inr e))
    visA := .inr (.inl rfl)
    alt := fun k a => by
      rcases a with a | a | a | a
      · exact Nat.lt_of_lt_of_le a.2 hbl.size
      · subst a; exact hvis.lt
      · exact (hpk k a).2.2
      · exact Nat.lt_of_lt_of_le (ht.lt k a) hbl.size
    mutA := fun k m a => by
      have : k = bo ∨ k = bm := by
        rcases m with e | e | e | e | e
        · exact .inl e
        · exact .inr e
        · exact .inl e
        · exact absurd e (hnone k)
        · exact absurd e (hnone k)
      rcases a with a | a | a | a
      · omega
      · omega
      · have := hpk k a; omega
      · have := ht.lt k a; omega
    bobm := d6
    pbbm := d6
    tvbm := hnone _
    tvpb := hnone _
    bvbo := hnone _
    bvbm := hnone _
    bvpb := hnone _
    sep := fun k e _ => hnone k e }

set_option maxRecDepth 100000 in
set_option maxHeartbeats 6400000 in
theorem normalize_any (lv : Value) (lib : List Fn) (f : Fn) (pa ka : Option Addr) (pc kc : Nat) (A : Nat → Prop) (w : World) (hl : FnsAt A w lv lib) (hp : ParsAt A w (.slice pa f.params.length pc) f.params) (hb : NdAt A w (.agg #[.int .u8 f.body.kind, .int .i64 f.body.num, .string f.body.name, .slice ka f.body.kids.length kc]) f.body)
    (hname : f.name.size ≤ maxLen) (hform : formedN f.body = true) (hkn : knownN lib f.body = true) (hsz : sizeN f.body ≤ 20000) (hpl : f.params.length ≤ 1000) (ht : Tab w) :
    Calls Tryz.prog 81 #[lv, .agg #[.string f.name, .slice pa f.params.length pc, .bool f.list, .int .u8 f.body.kind, .int .i64 f.body.num, .string f.body.name, .slice ka f.body.kids.length kc]] w fun e w' =>
      ∃ pv tv bv, e = .returned (.agg #[.string f.name, pv, .bool f.list, tv, bv, .string (normF lib f).result]) ∧ ParsAt (NewA A w) w' pv f.params ∧ ParsAt (NewA A w) w' tv (normF lib f).temps ∧ BdsAt (NewA A w) w' bv (normF lib f).body ∧ Below w.heap.size w w' := by
  obtain ⟨_, la, lc, rfl⟩ := hl.form
  have hA : Below w.heap.size w ((w.alloc (.cells #[.string f.name, .slice pa f.params.length pc, .bool f.list, .int .u8 f.body.kind, .int .i64 f.body.num, .string f.body.name, .slice ka f.body.kids.length kc] 37)).alloc (.cells #[.string ⟨#[]⟩, .slice none 0 0, .bool false, .slice none 0 0, .slice none 0 0, .string ⟨#[]⟩] 31)) := ((Below.refl _ _).alloc (Nat.le_refl _) _).alloc (by simp) _
  have n0 := at_mid' w (.cells #[.string f.name, .slice pa f.params.length pc, .bool f.list, .int .u8 f.body.kind, .int .i64 f.body.num, .string f.body.name, .slice ka f.body.kids.length kc] 37) (.cells #[.string ⟨#[]⟩, .slice none 0 0, .bool false, .slice none 0 0, .slice none 0 0, .string ⟨#[]⟩] 31)
  have n1 := at_new w (.cells #[.string f.name, .slice pa f.params.length pc, .bool f.list, .int .u8 f.body.kind, .int .i64 f.body.num, .string f.body.name, .slice ka f.body.kids.length kc] 37) (.cells #[.string ⟨#[]⟩, .slice none 0 0, .bool false, .slice none 0 0, .slice none 0 0, .string ⟨#[]⟩] 31)
  have hWs : ((w.alloc (.cells #[.string f.name, .slice pa f.params.length pc, .bool f.list, .int .u8 f.body.kind, .int .i64 f.body.num, .string f.body.name, .slice ka f.body.kids.length kc] 37)).alloc (.cells #[.string ⟨#[]⟩, .slice none 0 0, .bool false, .slice none 0 0, .slice none 0 0, .string ⟨#[]⟩] 31)).heap.size = w.heap.size + 1 + 1 := by simp
  have c0 := cell_blk n0 0 rfl
  have c1 := cell_blk n0 1 rfl
  have c2 := cell_blk n0 2 rfl
  have N0 := Lib.hid n0
  have N1 := Lib.hid n1
  have HWS := Lib.hid hWs
  have HL := Lib.hid hl
  have HP := Lib.hid hp
  have HB := Lib.hid hb
  have HF := Lib.hid hform
  have HKN := Lib.hid hkn
  have HT := Lib.hid ht
  clear n0 n1 hWs hl hp hb hform hkn ht
  go_enter Tryz.func81, Tryz.ntmps81
  go_wp2
  generalize ((w.alloc (.cells #[.string f.name, .slice pa f.params.length pc, .bool f.list, .int .u8 f.body.kind, .int .i64 f.body.num, .string f.body.name, .slice ka f.body.kids.length kc] 37)).alloc (.cells #[.string ⟨#[]⟩, .slice none 0 0, .bool false, .slice none 0 0, .slice none 0 0, .string ⟨#[]⟩] 31)) = W at *
  go_cut [5] (fun s5 wx => NmA w f pa ka pc kc s5 wx)
  case first =>
    have hD : Below W.heap.size W W.drew := below_drewN (Below.refl _ _) 1
    have hZ : Below W.heap.size W (W.alloc (.cells #[.string ⟨#[]⟩, .slice none 0 0, .bool false, .slice none 0 0, .slice none 0 0, .string ⟨#[]⟩] 31)).drew := below_drewN ((Below.refl _ _).alloc (Nat.le_refl _) _) 1
    have hlw : w.heap.size < W.heap.size := by have := HWS.out; omega
    have HZS : Hid (W.heap.size < (W.alloc (.cells #[.string ⟨#[]⟩, .slice none 0 0, .bool false, .slice none 0 0, .slice none 0 0, .string ⟨#[]⟩] 31)).drew.heap.size) := Lib.hid (by simp [World.drew])
    have HSA : Hid (∀ w1, Below W.heap.size W w1 → w1.cell? ⟨w.heap.size, 0, none⟩ = some (.string f.name) ∧ w1.cell? ⟨w.heap.size, 1, none⟩ = some (.slice pa f.params.length pc) ∧ w1.cell? ⟨w.heap.size, 2, none⟩ = some (.bool f.list)) := Lib.hid (fun w1 hb1 => ⟨(hb1.cell (p := ⟨w.heap.size, 0, none⟩) hlw).trans c0, (hb1.cell (p := ⟨w.heap.size, 1, none⟩) hlw).trans c1, (hb1.cell (p := ⟨w.heap.size, 2, none⟩) hlw).trans c2⟩)
    have HCL : Hid (∀ w1, Below W.heap.size W w1 → Calls Tryz.prog 110 #[.slice pa f.params.length pc] w1 _) := Lib.hid (fun w1 hb1 => clone_pars _ f.params A w1 (HP.out.stays (Stays.of_below (hA.trans (hb1.mono hA.size)))) (by omega))
    obtain ⟨e0, e1, e2⟩ := HSA.out (W.alloc (.cells #[.string ⟨#[]⟩, .slice none 0 0, .bool false, .slice none 0 0, .slice none 0 0, .string ⟨#[]⟩] 31)) ((Below.refl _ _).alloc (Nat.le_refl _) _)
    go_region_law (first
      | (go_simp; go_at_call 110; refine (HCL.out _ hD).mono ?_; rintro e w1 ⟨pv, rfl, hpv, hb1', hpk⟩; obtain ⟨_, av, cv, rfl⟩ := hpv.form; have hb1 := hD.trans (hb1'.mono hD.size); have hA1 : Below w1.heap.size w1 (w1.alloc (.cells #[.string ⟨#[]⟩, .slice none 0 0, .bool false, .slice none 0 0, .slice none 0 0, .string ⟨#[]⟩] 31)) := (Below.refl _ _).alloc (Nat.le_refl _) _; obtain ⟨d0, d1, d2⟩ := HSA.out w1 hb1; obtain ⟨d3, d4, d5⟩ := HSA.out _ (hb1.trans (hA1.mono hb1.size)); have HPV := Lib.hid hpv; clear hpv)
      | (go_simp; go_at_call 110; refine (HCL.out _ hZ).mono ?_; rintro e w1 ⟨pv, rfl, hpv, hb1', hpk⟩; obtain ⟨_, av, cv, rfl⟩ := hpv.form; have hb1 := hZ.trans (hb1'.mono hZ.size); have hA1 : Below w1.heap.size w1 (w1.alloc (.cells #[.string ⟨#[]⟩, .slice none 0 0, .bool false, .slice none 0 0, .slice none 0 0, .string ⟨#[]⟩] 31)) := (Below.refl _ _).alloc (Nat.le_refl _) _; obtain ⟨d0, d1, d2⟩ := HSA.out w1 hb1; obtain ⟨d3, d4, d5⟩ := HSA.out _ (hb1.trans (hA1.mono hb1.size)); have hzb := (hb1'.block W.heap.size HZS.out).trans (heap_alloc_new W (.cells #[.string ⟨#[]⟩, .slice none 0 0, .bool false, .slice none 0 0, .slice none 0 0, .string ⟨#[]⟩] 31)); have z0 : w1.cell? ⟨W.heap.size, 0, none⟩ = some (.string ⟨#[]⟩) := cell_blk hzb 0 rfl; have z1 : w1.cell? ⟨W.heap.size, 1, none⟩ = some (.slice none 0 0) := cell_blk hzb 1 rfl; have z2 : w1.cell? ⟨W.heap.size, 2, none⟩ = some (.bool false) := cell_blk hzb 2 rfl; have z3 : w1.cell? ⟨W.heap.size, 3, none⟩ = some (.slice none 0 0) := cell_blk hzb 3 rfl; have z4 : w1.cell? ⟨W.heap.size, 4, none⟩ = some (.slice none 0 0) := cell_blk hzb 4 rfl; have z5 : w1.cell? ⟨W.heap.size, 5, none⟩ = some (.string ⟨#[]⟩) := cell_blk hzb 5 rfl; have hfz := unfrozen hzb; have HZB := Lib.hid hzb; have HPV := Lib.hid hpv; clear hzb hpv))
    all_goals
      clear d0 d1 d2 d3 d4 d5 e0 e1 e2 c0 c1 c2
      go_wp2
      go_meet
      first
        | with_reducible exact nmA1 hA HWS.out N0.out N1.out hb1 HPV.out (fun k e => ⟨Nat.le_trans hD.size (hpk k e).1, (hpk k e).2⟩)
        | with_reducible exact nmA2 hA HWS.out N0.out N1.out hb1 HPV.out (fun k e => ⟨Nat.lt_of_lt_of_le HZS.out (hpk k e).1, (hpk k e).2⟩) HZB.out
  case rest =>
    obtain ⟨bo, pv, rfl, hBx, hbo, hblk, hpv, hpk, ⟨pva, pvc, rfl⟩, m0, m1⟩ := hcut
    have hmf : ∀ (fn : Go.Fn) (first cap : Array Value) (w : World), (Instr.makeFunc fn first cap).run Tryz.prog w = .ok (.func fn first cap) w := fun _ _ _ _ => rfl
    have hmm := @run_makeMap Tryz.prog
    have q1 : wc.cell? ⟨w.heap.size, 1, none⟩ = some (.slice pa f.params.length pc) := cell_blk m0 1 rfl
    have hlw : w.heap.size < wc.heap.size := by rw [Array.getElem?_eq_some_iff] at m0; exact m0.1
    have hlbo : bo < wc.heap.size := by rw [Array.getElem?_eq_some_iff] at hblk; exact hblk.1
    have HM0 := Lib.hid m0
    have HM1 := Lib.hid m1
    have HBLK := Lib.hid hblk
    have HPV := Lib.hid hpv
    have HPK := Lib.hid hpk
    clear m0 m1 hblk hpv hpk c0 c1 c2
    have hW3 : Below wc.heap.size wc ((wc.alloc (.map #[] 0)).alloc (.cells #[.slice la lib.length lc, .map (some wc.heap.size), .func (.func 111) #[] #[.pointer (some ⟨bo, 0, none⟩)], .func (.func 113) #[] #[.pointer (some ⟨bo, 0, none⟩)]] 143)) := ((Below.refl _ _).alloc (Nat.le_refl _) _).alloc (by simp) _
    have HVI : Hid (VisB ((wc.alloc (.map #[] 0)).alloc (.cells #[.slice la lib.length lc, .map (some wc.heap.size), .func (.func 111) #[] #[.pointer (some ⟨bo, 0, none⟩)], .func (.func 113) #[] #[.pointer (some ⟨bo, 0, none⟩)]] 143)) (wc.heap.size + 1) bo wc.heap.size (.slice la lib.length lc)) := Lib.hid (at_new wc _ _)
    have HMP : Hid (SMapLe Tryz.prog 9 ((wc.alloc (.map #[] 0)).alloc (.cells #[.slice la lib.length lc, .map (some wc.heap.size), .func (.func 111) #[] #[.pointer (some ⟨bo, 0, none⟩)], .func (.func 113) #[] #[.pointer (some ⟨bo, 0, none⟩)]] 143)) wc.heap.size (fun s => (parsEnv (f.params.take 0) s).map parV) 0) := Lib.hid ((SMapLe.made Tryz.prog 9 wc).below ((Below.refl _ _).alloc (Nat.le_refl _) _))
    have hW3s : wc.heap.size + 1 < ((wc.alloc (.map #[] 0)).alloc (.cells #[.slice la lib.length lc, .map (some wc.heap.size), .func (.func 111) #[] #[.pointer (some ⟨bo, 0, none⟩)], .func (.func 113) #[] #[.pointer (some ⟨bo, 0, none⟩)]] 143)).heap.size := by simp
    go_wp2
    clear hmm
    generalize ((wc.alloc (.map #[] 0)).alloc (.cells #[.slice la lib.length lc, .map (some wc.heap.size), .func (.func 111) #[] #[.pointer (some ⟨bo, 0, none⟩)], .func (.func 113) #[] #[.pointer (some ⟨bo, 0, none⟩)]] 143)) = W3 at *
    go_loopw [28] (fun i wr => ∃ k : Nat, i = .int .i64 k ∧ k ≤ f.params.length ∧ Keeps W3 wr (fun j => j = wc.heap.size) ∧ SMapLe Tryz.prog 9 wr wc.heap.size (fun s => (parsEnv (f.params.take k) s).map parV) k) (fun i _ => f.params.length - (intOf i).toNat)
    case atStart => exact ⟨0, rfl, Nat.zero_le _, Keeps.refl _ _, HMP.out⟩
    case round =>
      obtain ⟨k, rfl, hk1, hkp, hm⟩ := hrel
      have hzk := hkp.size
      have hbl : Below w.heap.size w wr := hBx.trans ((hW3.mono hBx.size).trans (hkp.below (fun j e => by omega) (by omega)))
      have hvb : wr.heap[wc.heap.size + 1]? = _ := (hkp.block (wc.heap.size + 1) hW3s (by omega)).trans HVI.out
      by_cases hlt : k < f.params.length
      · obtain ⟨b, off, cap', he, hb, _, _, c0, c1, hs⟩ := (HP.out.stays (Stays.of_below hbl)).at hlt
        simp only [Value.slice.injEq] at he
        obtain ⟨rfl, -, rfl⟩ := he
        have hmA := hm.below ((Below.refl _ _).alloc (Nat.le_refl _) (.cells #[.string (at' f.params k).name, .bool (at' f.params k).list] 57))
        have HPE := Lib.hid (parsEnv_snoc f.params k hlt)
        have v1 : (wr.alloc (.cells #[.string (at' f.params k).name, .bool (at' f.params k).list] 57)).cell? ⟨wc.heap.size + 1, 1, none⟩ = some (.map (some wc.heap.size)) := (((Below.refl _ _).alloc (Nat.le_refl _) _).cell (p := ⟨wc.heap.size + 1, 1, none⟩) (by simp; omega)).trans (cell_blk hvb 1 rfl)
        have HKP := Lib.hid (hkp.alloc (.cells #[.string (at' f.params k).name, .bool (at' f.params k).list] 57))
        clear hm hvb
        go_wp2_with (refine wpl_ins MP rfl (.tmp 33) (.tmp 35) _ (.inr rfl) rfl rfl rfl hmA hs (by unfold maxLen; omega) ?_; intro w3 hm3 hg3; have hm4 := hm3.ext (env_put (parsEnv (f.params.take k)) (at' f.params k).name (at' f.params k)); have hkp3 := HKP.out.same (Keeps.of_grown hg3 (fun j e => .inl (by simpa using e.symm))))
        go_roundw
        case rel => exact ⟨k + 1, by go_num, by omega, hkp3, by rw [HPE.out]; exact hm4⟩
        case measure => simp [intOf]; omega
      · obtain rfl : k = f.params.length := by omega
        rw [List.take_length] at hm
        have hblkr : wr.heap[bo]? = _ := (hkp.block bo (by have := hW3.size; omega) (by omega)).trans ((hW3.block bo hlbo).trans HBLK.out)
        have hm0r : wr.heap[w.heap.size]? = _ := (hkp.block w.heap.size (by have := hW3.size; omega) (by omega)).trans ((hW3.block w.heap.size hlw).trans HM0.out)
        have hl1 : w.heap.size + 1 < wc.heap.size := by have e := HM1.out; rw [Array.getElem?_eq_some_iff] at e; exact e.1
        have hm1r : wr.heap[w.heap.size + 1]? = some (.cells #[.string ⟨#[]⟩, .slice none 0 0, .bool false, .slice none 0 0, .slice none 0 0, .string ⟨#[]⟩] 31 (0, 0)) := (hkp.block (w.heap.size + 1) (by have := hW3.size; omega) (by omega)).trans ((hW3.block (w.heap.size + 1) hl1).trans HM1.out)
        have hpvr : ParsAt (fun k => (Value.slice pva f.params.length pvc).ownBlock = some k) wr (.slice pva f.params.length pvc) f.params := HPV.out.stays ⟨by have := hW3.size; omega, fun b hb a => ⟨(hkp.block b (by have := hW3.size; omega) (by omega)).trans (hW3.block b hb), a⟩⟩
        have hS := st_begin HL.out hbl hblkr hvb hm HT.out (by omega) (by omega) (by omega) (by omega) (by omega) (fun k e => by have := HPK.out k e; exact ⟨this.2.1, by omega, by omega⟩)
        have hLr : Locs ⟨wc.heap.size + 1, bo, wc.heap.size, .string f.name, .slice pva f.params.length pvc, .bool f.list, .string ⟨#[]⟩, .slice la lib.length lc, lib⟩ bo (fun k => (A k ∧ k < w.heap.size) ∨ k = wc.heap.size + 1 ∨ (Value.slice pva f.params.length pvc).ownBlock = some k ∨ TabK k) (.slice none 0 0) (.slice none 0 0) wr [(w.heap.size + 1, (.cells #[.string ⟨#[]⟩, .slice none 0 0, .bool false, .slice none 0 0, .slice none 0 0, .string ⟨#[]⟩] 31 (0, 0)))] := fun p hp => by
          simp only [List.mem_singleton] at hp
          subst hp
          refine ⟨hm1r, fun a => ?_, fun m => ?_⟩
          · rcases a with a | a | a | a
            · simp only at a; omega
            · simp only at a; omega
            · have := HPK.out _ a; simp only at this; omega
            · have := HT.out.lt _ a; simp only at this; omega
          · rcases m with e | e | e | e | e
            · simp only at e; omega
            · simp only at e; omega
            · simp only at e; omega
            · simp [Value.ownBlock] at e
            · simp [Value.ownBlock] at e
        have hnd := HB.out.stays (A' := fun k => (A k ∧ k < w.heap.size) ∨ k = wc.heap.size + 1 ∨ (Value.slice pva f.params.length pvc).ownBlock = some k ∨ TabK k) ⟨hbl.size, fun b hb a => ⟨hbl.block b hb, .inl ⟨a, hb⟩⟩⟩
        have hpar : ∀ j, j < f.params.length → (at' f.params j).name.size ≤ maxLen := fun j hj => by obtain ⟨_, _, _, _, _, _, _, _, _, h⟩ := HP.out.at hj; exact h
        have hse := parsEnv_small f.params hpar f.params.length (Nat.le_refl _)
        rw [List.take_length] at hse
        have HX := Lib.hid (expr_ok (sizeN f.body) _ f.body _ bo 4 _ wr _ _ _ [] [] (parsEnv f.params) _ (Nat.le_refl _) HF.out HKN.out hnd hS hse (fun j => by simp [at']; exact Nat.zero_le _) (by simp; omega) (by simp; omega) (by omega))
        have hxs := expr_small lib f.body (parsEnv f.params) [] hse (fun j => by simp [at']; exact Nat.zero_le _) (by simp; omega)
        have hxl := expr_len lib f.body (parsEnv f.params) []
        have HNF : Hid (normF lib f = ⟨f.name, f.params, f.list, (exprN lib f.body (parsEnv f.params) []).ts, (exprN lib f.body (parsEnv f.params) []).bs, (exprN lib f.body (parsEnv f.params) []).par.name⟩) := Lib.hid rfl
        have b3 : wr.cell? ⟨w.heap.size, 3, none⟩ = some (.int .u8 f.body.kind) := cell_blk hm0r 3 rfl
        have b4 : wr.cell? ⟨w.heap.size, 4, none⟩ = some (.int .i64 f.body.num) := cell_blk hm0r 4 rfl
        have b5 : wr.cell? ⟨w.heap.size, 5, none⟩ = some (.string f.body.name) := cell_blk hm0r 5 rfl
        have b6 : wr.cell? ⟨w.heap.size, 6, none⟩ = some (.slice ka f.body.kids.length kc) := cell_blk hm0r 6 rfl
        have HS := Lib.hid hS
        have HLR := Lib.hid hLr
        have HPVR := Lib.hid hpvr
        have hfd := field_par0
        clear hblkr hm0r hm1r hpvr hS hLr hnd hpar hvb hm hlt
        have hlt : ¬ (f.params.length : Int) < (f.params.length : Int) := by omega
        go_wp2_with fail
        refine HX.out.mono ?_
        rintro e w5 ⟨rfl, A5, tv5, bv5, c45, hS5, hT5⟩
        generalize exprN lib f.body (parsEnv f.params) [] = X at *
        rw [List.nil_append] at hS5
        obtain ⟨ta, tc, rfl⟩ := row_form (VSt.out hS5).own
        have hbo5 : w5.heap[bo]? = _ := (VSt.out hS5).blk
        obtain rfl : c45 = bv5 := by
          rcases VSt.ptr hS5 with ⟨_, _, e⟩ | ⟨e, _⟩
          · exact e
          · exact absurd rfl e
        obtain ⟨xs5, hrow5, hcs5⟩ := VSt.row hS5
        obtain ⟨ba, bc, rfl⟩ := row_form hrow5
        have hL5 := HLR.out.step hT5
        have hr5 : w5.heap[w.heap.size + 1]? = some (.cells #[.string ⟨#[]⟩, .slice none 0 0, .bool false, .slice none 0 0, .slice none 0 0, .string ⟨#[]⟩] 31 (0, 0)) := hL5.blk (List.mem_cons_self ..)
        have hbo6 := heap_setCell_same w5 bo 5 _ _ (.string X.par.name) hbo5
        simp only [List.setIfInBounds_toArray, List.set_cons_zero, List.set_cons_succ] at hbo6
        have hr6 : (w5.setCell ⟨bo, 5, none⟩ (.string X.par.name)).heap[w.heap.size + 1]? = some (.cells #[.string ⟨#[]⟩, .slice none 0 0, .bool false, .slice none 0 0, .slice none 0 0, .string ⟨#[]⟩] 31 (0, 0)) := (heap_setCell_other w5 ⟨bo, 5, none⟩ (w.heap.size + 1) _ (by simp only; omega)).trans hr5
        have z5 : w5.cell? ⟨bo, 5, none⟩ = some (.string ⟨#[]⟩) := cell_blk hbo5 5 rfl
        have fz5 := unfrozen hbo5 5
        have o0 : w5.cell? ⟨bo, 0, none⟩ = some (.string f.name) := cell_blk hbo5 0 rfl
        have o1 : w5.cell? ⟨bo, 1, none⟩ = some (.slice pva f.params.length pvc) := cell_blk hbo5 1 rfl
        have o2 : w5.cell? ⟨bo, 2, none⟩ = some (.bool f.list) := cell_blk hbo5 2 rfl
        have o3 : w5.cell? ⟨bo, 3, none⟩ = some (.slice ta X.ts.length tc) := cell_blk hbo5 3 rfl
        have o4 : w5.cell? ⟨bo, 4, none⟩ = some (.slice ba X.bs.length bc) := cell_blk hbo5 4 rfl
        have y0 : w5.cell? ⟨w.heap.size + 1, 0, none⟩ = some (.string ⟨#[]⟩) := cell_blk hr5 0 rfl
        have y1 : w5.cell? ⟨w.heap.size + 1, 1, none⟩ = some (.slice none 0 0) := cell_blk hr5 1 rfl
        have y2 : w5.cell? ⟨w.heap.size + 1, 2, none⟩ = some (.bool false) := cell_blk hr5 2 rfl
        have y3 : w5.cell? ⟨w.heap.size + 1, 3, none⟩ = some (.slice none 0 0) := cell_blk hr5 3 rfl
        have y4 : w5.cell? ⟨w.heap.size + 1, 4, none⟩ = some (.slice none 0 0) := cell_blk hr5 4 rfl
        have y5 : w5.cell? ⟨w.heap.size + 1, 5, none⟩ = some (.string ⟨#[]⟩) := cell_blk hr5 5 rfl
        have fy := unfrozen hr5
        have HS5 := Lib.hid hS5
        have HT5 := Lib.hid hT5
        have HL5 := Lib.hid hL5
        have HR6 := Lib.hid hr6
        have hne : w.heap.size + 1 ≠ bo := by omega
        clear hS5 hT5 hL5 hr5 hr6 hbo5 hbo6 hrow5 hcs5 HX b3 b4 b5 b6
        go_wp2
        have hK7 : Keeps w5 (((((((w5.setCell ⟨bo, 5, none⟩ (.string X.par.name)).setCell ⟨w.heap.size + 1, 0, none⟩ (.string f.name)).setCell ⟨w.heap.size + 1, 1, none⟩ (.slice pva f.params.length pvc)).setCell ⟨w.heap.size + 1, 2, none⟩ (.bool f.list)).setCell ⟨w.heap.size + 1, 3, none⟩ (.slice ta X.ts.length tc)).setCell ⟨w.heap.size + 1, 4, none⟩ (.slice ba X.bs.length bc)).setCell ⟨w.heap.size + 1, 5, none⟩ (.string X.par.name)) (fun k => k = bo ∨ k = w.heap.size + 1) := ((((((((keeps_set w5 bo 5 (.string X.par.name)).mono (T := fun k => k = bo ∨ k = w.heap.size + 1) (fun k e => .inl e)).same ((keeps_set _ (w.heap.size + 1) 0 (.string f.name)).mono (fun k e => .inr e))).same ((keeps_set _ (w.heap.size + 1) 1 (.slice pva f.params.length pvc)).mono (fun k e => .inr e))).same ((keeps_set _ (w.heap.size + 1) 2 (.bool f.list)).mono (fun k e => .inr e))).same ((keeps_set _ (w.heap.size + 1) 3 (.slice ta X.ts.length tc)).mono (fun k e => .inr e))).same ((keeps_set _ (w.heap.size + 1) 4 (.slice ba X.bs.length bc)).mono (fun k e => .inr e))).same ((keeps_set _ (w.heap.size + 1) 5 (.string X.par.name)).mono (fun k e => .inr e)))
        have h7 := heap_setCell_same _ (w.heap.size + 1) 5 _ _ (.string X.par.name) (heap_setCell_same _ (w.heap.size + 1) 4 _ _ (.slice ba X.bs.length bc) (heap_setCell_same _ (w.heap.size + 1) 3 _ _ (.slice ta X.ts.length tc) (heap_setCell_same _ (w.heap.size + 1) 2 _ _ (.bool f.list) (heap_setCell_same _ (w.heap.size + 1) 1 _ _ (.slice pva f.params.length pvc) (heap_setCell_same _ (w.heap.size + 1) 0 _ _ (.string f.name) HR6.out)))))
        simp only [List.setIfInBounds_toArray, List.set_cons_zero, List.set_cons_succ] at h7
        have hA5n : ∀ k, A5 k → ¬ (k = bo ∨ k = w.heap.size + 1) := by
          rintro k a (e | e)
          · exact VSt.mutA HS5.out k (.inl e) a
          · subst e; exact (HL5.out _ (List.mem_cons_self ..)).2.1 a
        have htn : ∀ k, (Value.slice ta X.ts.length tc).ownBlock = some k → ¬ (k = bo ∨ k = w.heap.size + 1) := by
          rintro k e (e2 | e2)
          · subst e2; exact (VSt.out HS5.out).ne e
          · subst e2; exact (HL5.out _ (List.mem_cons_self ..)).2.2 (.inr (.inr (.inr (.inl e))))
        have hbn : ∀ k, (Value.slice ba X.bs.length bc).ownBlock = some k → ¬ (k = bo ∨ k = w.heap.size + 1) := by
          rintro k e (e2 | e2)
          · subst e2; exact VSt.bvbo HS5.out e
          · subst e2; exact (HL5.out _ (List.mem_cons_self ..)).2.2 (.inr (.inr (.inr (.inr e))))
        have hB5 : Below w.heap.size w w5 := hbl.trans (HT5.out.keeps.below (fun k m => by
          rcases m with e | e | e | e | e
          · simp only at e; omega
          · simp only at e; omega
          · omega
          · simp [Value.ownBlock] at e
          · simp [Value.ownBlock] at e) hbl.size)
        have hNA : ∀ k, A5 k → NewA A w k := fun k a => by
          rcases HT5.out.new k a with (a | a | a | a) | a
          · exact .inl a.1
          · exact .inr (.inl (by omega))
          · exact .inr (.inl (by have := HPK.out k a; omega))
          · exact .inr (.inr a)
          · exact .inr (.inl (Nat.le_trans hbl.size a))
        have hp7 : ParsAt (NewA A w) (((((((w5.setCell ⟨bo, 5, none⟩ (.string X.par.name)).setCell ⟨w.heap.size + 1, 0, none⟩ (.string f.name)).setCell ⟨w.heap.size + 1, 1, none⟩ (.slice pva f.params.length pvc)).setCell ⟨w.heap.size + 1, 2, none⟩ (.bool f.list)).setCell ⟨w.heap.size + 1, 3, none⟩ (.slice ta X.ts.length tc)).setCell ⟨w.heap.size + 1, 4, none⟩ (.slice ba X.bs.length bc)).setCell ⟨w.heap.size + 1, 5, none⟩ (.string X.par.name)) (.slice pva f.params.length pvc) f.params := by
          have h1 := (HPVR.out.stays (A' := fun k => (A k ∧ k < w.heap.size) ∨ k = wc.heap.size + 1 ∨ (Value.slice pva f.params.length pvc).ownBlock = some k ∨ TabK k) ⟨Nat.le_refl _, fun b _ a => ⟨rfl, .inr (.inr (.inl a))⟩⟩).stays (HS.out.stays HT5.out)
          exact h1.stays ⟨hK7.size, fun b hb a => ⟨hK7.block b hb (hA5n b a), hNA b a⟩⟩
        have ht7 : ParsAt (NewA A w) (((((((w5.setCell ⟨bo, 5, none⟩ (.string X.par.name)).setCell ⟨w.heap.size + 1, 0, none⟩ (.string f.name)).setCell ⟨w.heap.size + 1, 1, none⟩ (.slice pva f.params.length pvc)).setCell ⟨w.heap.size + 1, 2, none⟩ (.bool f.list)).setCell ⟨w.heap.size + 1, 3, none⟩ (.slice ta X.ts.length tc)).setCell ⟨w.heap.size + 1, 4, none⟩ (.slice ba X.bs.length bc)).setCell ⟨w.heap.size + 1, 5, none⟩ (.string X.par.name)) (.slice ta X.ts.length tc) X.ts := pars_of_row (row_keeps (VSt.out HS5.out).own hK7 htn) (fun k e => .inr (.inl (by rcases HT5.out.ntv k e with e | e; simp [Value.ownBlock] at e; exact Nat.le_trans hbl.size e))) (by unfold maxLen; simp only [List.length_nil] at hxl; omega) hxs.2.2
        have hb7 : BdsAt (NewA A w) (((((((w5.setCell ⟨bo, 5, none⟩ (.string X.par.name)).setCell ⟨w.heap.size + 1, 0, none⟩ (.string f.name)).setCell ⟨w.heap.size + 1, 1, none⟩ (.slice pva f.params.length pvc)).setCell ⟨w.heap.size + 1, 2, none⟩ (.bool f.list)).setCell ⟨w.heap.size + 1, 3, none⟩ (.slice ta X.ts.length tc)).setCell ⟨w.heap.size + 1, 4, none⟩ (.slice ba X.bs.length bc)).setCell ⟨w.heap.size + 1, 5, none⟩ (.string X.par.name)) (.slice ba X.bs.length bc) X.bs := ((VSt.row HS5.out).keeps hK7 hA5n hbn).shut hNA (fun k e => .inr (.inl (by rcases HT5.out.nbv k e with e | e; simp [Value.ownBlock] at e; exact Nat.le_trans hbl.size e))) (by unfold maxLen; omega)
        (try simp only [Exit.inBlock, Exit.then])
        refine bodyPost_ret (results_cell_row (P := Tryz.prog) rfl _ _ (w.heap.size + 1) _ _ _ _ rfl h7 Tryz.underlying31 rfl (by kernel_rfl)) rfl ?_
        rw [HNF.out]
        exact ⟨_, _, _, rfl, hp7, ht7, hb7, hB5.trans (hK7.below (fun k e => by omega) hB5.size)⟩
end Go.Proofs.YtehmmokkjojggabGreatDoor
/- What a valid library says of its bodies: no program in sight. -/
namespace Go.Proofs.YtehmmokkjojggabGreatDoor
set_option linter.unusedVariables false

mutual
/-- a tree that has a type calls known functions only -/
theorem check_known (lib : List Fn) : ∀ (n : Nd) (vis : Vis), (checkN lib n vis).2 = 0 → knownN lib n = true
  | .mk k num name kids, vis, h => by
    rw [checkN] at h
    by_cases hr : reachE lib vis k name kids.length = 0
    · rw [if_neg (by simpa using hr)] at h
      simp only [] at h
      by_cases hc : (checkL lib (decide (k = 84)) name kids 0 [] vis).2 = 0
      · rw [knownN, Bool.and_eq_true]
        refine ⟨?_, checkL_known lib (decide (k = 84)) name kids 0 [] vis hc⟩
        by_cases h85 : k = 85
        · have : 0 ≤ findF lib name := by
            unfold reachE at hr
            rw [if_neg (by omega), if_neg (by omega), if_pos h85] at hr
            rcases Int.lt_or_le (findF lib name) 0 with h0 | h0
            · rw [if_pos h0] at hr; omega
            · exact h0
          simp [this]
        · simp [h85]
      · rw [if_pos hc] at h
        exact absurd h hc
    · rw [if_pos hr] at h
      exact absurd h hr
theorem checkL_known (lib : List Fn) (b : Bool) (name : ByteArray) : ∀ (l : List Nd) (j : Nat) (types : List Bool) (vis : Vis), (checkL lib b name l j types vis).2 = 0 → knownL lib l = true
  | [], _, _, _, _ => by rw [knownL]
  | n :: r, j, types, vis, h => by
    rw [checkL] at h
    rw [knownL, Bool.and_eq_true]
    by_cases hc : (checkN lib n (if b ∧ j = 1 then vis.put name (types.getD 0 false) else vis)).2 = 0
    · rw [if_neg (by simpa using hc)] at h
      exact ⟨check_known lib n _ hc, checkL_known lib b name r (j + 1) _ vis h⟩
    · rw [if_pos hc] at h
      exact absurd h hc
end

theorem valid_from (lib : List Fn) : ∀ (n i : Nat), (validFrom lib n i).2 = 0 → ∀ j, i ≤ j → j < i + n → fnE lib j = 0
  | 0, i, _, j, h1, h2 => by omega
  | n + 1, i, h, j, h1, h2 => by
    rw [validFrom] at h
    by_cases he : fnE lib i = 0
    · rw [if_neg (by simpa using he)] at h
      by_cases hj : j = i
      · subst hj; exact he
      · exact valid_from lib n (i + 1) h j (by omega) (by omega)
    · rw [if_pos he] at h
      exact absurd h he

/-- what a valid function is like -/
structure FnOk (lib : List Fn) (i : Nat) : Prop where
  lt : i < 30
  name : nameB (at' lib i).name = true
  first : ¬ findF lib (at' lib i).name < i
  pars : parsE (at' lib i).params = 0
  form : formedN (at' lib i).body = true
  depth : depthN (at' lib i).body ≤ 80
  size : sizeN (at' lib i).body ≤ 2000
  check : (checkN lib (at' lib i).body (parsV (at' lib i).params)).2 = 0
  list : (checkN lib (at' lib i).body (parsV (at' lib i).params)).1 = (at' lib i).list

theorem fnE_ok {lib : List Fn} {i : Nat} (h : fnE lib i = 0) : FnOk lib i := by
  unfold fnE at h
  simp only [] at h
  by_cases h1 : 30 ≤ i
  · rw [if_pos h1] at h; omega
  rw [if_neg h1] at h
  by_cases h2 : (!nameB (at' lib i).name) = true
  · rw [if_pos h2] at h; omega
  rw [if_neg h2] at h
  by_cases h3 : findF lib (at' lib i).name < i
  · rw [if_pos h3] at h; omega
  rw [if_neg h3] at h
  by_cases h4 : ¬ parsE (at' lib i).params = 0
  · rw [if_pos h4] at h; exact absurd h h4
  rw [if_neg h4] at h
  have h4 := Classical.not_not.1 h4
  by_cases h5 : (!formedN (at' lib i).body) = true
  · rw [if_pos h5] at h; omega
  rw [if_neg h5] at h
  by_cases h6 : 80 < depthN (at' lib i).body
  · rw [if_pos h6] at h; omega
  rw [if_neg h6] at h
  by_cases h7 : 2000 < sizeN (at' lib i).body
  · rw [if_pos h7] at h; omega
  rw [if_neg h7] at h
  by_cases h8 : ¬ (checkN lib (at' lib i).body (parsV (at' lib i).params)).2 = 0
  · rw [if_pos h8] at h; exact absurd h h8
  rw [if_neg h8] at h
  have h8 := Classical.not_not.1 h8
  by_cases h9 : ¬ (checkN lib (at' lib i).body (parsV (at' lib i).params)).1 = (at' lib i).list
  · rw [if_pos h9] at h; omega
  have h9 := Classical.not_not.1 h9
  exact ⟨by omega, by simpa using h2, h3, h4, by simpa using h5, by omega, by omega, h8, h9⟩

theorem valid_ok {lib : List Fn} (h : (validE lib).2 = 0) {i : Nat} (hi : i < lib.length) : FnOk lib i :=
  fnE_ok (valid_from lib lib.length 0 h i (Nat.zero_le _) (by omega))
theorem pars_le {l : List Par} (h : parsE l = 0) : l.length ≤ 8 := by
  unfold parsE at h
  by_cases h8 : 8 < l.length
  · rw [if_pos h8] at h; omega
  · omega
end Go.Proofs.YtehmmokkjojggabGreatDoor
/- Walks of package anf: Normalize. -/
namespace Go.Proofs.YtehmmokkjojggabGreatDoor
set_option linter.unusedVariables false
open Go.RowKit

theorem TAFn : RowT Tryz.prog 24 31 (.agg #[.string ByteArray.empty, .slice none 0 0, .bool false, .slice none 0 0, .slice none 0 0, .string ByteArray.empty]) 6 112 := ⟨Tryz.underlying24, by kernel_rfl⟩

/-- the six cells of a normalized function -/
structure AFnCells (A : Nat → Prop) (w : World) (c : Nat → Value) (g : AFn) : Prop where
  c0 : c 0 = .string g.name
  c1 : ParsAt A w (c 1) g.params
  c2 : c 2 = .bool g.list
  c3 : ParsAt A w (c 3) g.temps
  c4 : BdsAt A w (c 4) g.body
  c5 : c 5 = .string g.result
  s0 : g.name.size ≤ maxLen
  s5 : g.result.size ≤ maxLen
theorem AFnCells.stays {A A' : Nat → Prop} {w w' : World} (hs : Stays A A' w w') {c : Nat → Value} {g : AFn} (h : AFnCells A w c g) : AFnCells A' w' c g := ⟨h.c0, h.c1.stays hs, h.c2, h.c3.stays hs, h.c4.stays hs, h.c5, h.s0, h.s5⟩
theorem AFnCells.congr {A : Nat → Prop} {w : World} {c d : Nat → Value} {g : AFn} (h : AFnCells A w c g) (e : ∀ i, i < 6 → d i = c i) : AFnCells A w d g :=
  ⟨(e 0 (by omega)).trans h.c0, by rw [e 1 (by omega)]; exact h.c1, (e 2 (by omega)).trans h.c2, by rw [e 3 (by omega)]; exact h.c3, by rw [e 4 (by omega)]; exact h.c4, (e 5 (by omega)).trans h.c5, h.s0, h.s5⟩

/-- a slice of normalized functions -/
def AFnsAt (A : Nat → Prop) (w : World) (v : Value) (l : List AFn) : Prop := ∃ cs, RowAt A w 6 v l.length cs ∧ ∀ j, j < l.length → AFnCells A w (cs j) (at' l j)
theorem AFnsAt.stays {A A' : Nat → Prop} {w w' : World} (hs : Stays A A' w w') {v : Value} {l : List AFn} (h : AFnsAt A w v l) : AFnsAt A' w' v l := by
  obtain ⟨cs, h1, h2⟩ := h; exact ⟨cs, h1.stays hs, fun j hj => (h2 j hj).stays hs⟩
theorem AFnsAt.form {A : Nat → Prop} {w : World} {v : Value} {l : List AFn} (h : AFnsAt A w v l) : l.length ≤ maxLen ∧ ∃ a c, v = .slice a l.length c := by
  obtain ⟨cs, h, _⟩ := h; exact ⟨h.1, h.form⟩

/-- a row of normalized functions of the call's own -/
def AFnsOwn (base : Nat) (w : World) (v : Value) (l : List AFn) : Prop := ∃ xs, w.ownsRow base 31 6 v l.length xs ∧ ∀ j, j < l.length → AFnCells (fun k => v.ownBlock ≠ some k) w (fun i => vat xs (j * 6 + i)) (at' l j)
theorem AFnsOwn.nil (base : Nat) (w : World) : AFnsOwn base w (.slice none 0 0) [] := ⟨[], World.ownsRow_nil _ _ _ _, fun j hj => by simp at hj⟩
theorem AFnsOwn.shut {base : Nat} {w : World} {v : Value} {l : List AFn} (h : AFnsOwn base w v l) (hl : l.length ≤ maxLen) : AFnsAt Any w v l := by
  obtain ⟨xs, hx, hf⟩ := h
  refine ⟨fun j i => vat xs (j * 6 + i), ⟨hl, ?_⟩, fun j hj => (hf j hj).stays ⟨Nat.le_refl _, fun _ _ _ => ⟨rfl, trivial⟩⟩⟩
  obtain ⟨h0, ⟨rfl, h1⟩ | ⟨g, cap, cur, rfl, hg, hh, hn, hm, hc, ht⟩⟩ := hx
  · exact ⟨none, 0, by rw [h1], by omega, fun _ => rfl, fun h => by omega⟩
  · refine ⟨_, cap, rfl, hn, nofun, fun hp => ⟨g, 0, rfl, by rw [Array.getElem?_eq_some_iff] at hh; exact hh.1, trivial, fun j hj i hi => ?_⟩⟩
    have hlt : j * 6 + i < xs.length := by omega
    have e : (0 : Nat) + j * 6 + i = j * 6 + i := by omega
    rw [e]
    simp only [World.cell?, hh, vat, List.getD_eq_getElem?_getD]
    have hx2 : xs[j * 6 + i]? = cur[j * 6 + i]? := by rw [← ht, List.getElem?_take, if_pos (by omega)]; simp
    rw [← hx2, List.getElem?_eq_getElem hlt]; rfl

theorem at_snoc_lt {α : Type} [Inhabited α] {l : List α} {b : α} {j : Nat} (h : j < l.length) : at' (l ++ [b]) j = at' l j := by simp [at', List.getD_eq_getElem?_getD, List.getElem?_append_left h]
theorem at_snoc_eq {α : Type} [Inhabited α] {l : List α} {b : α} : at' (l ++ [b]) l.length = b := by simp [at']

/-- one function more -/
theorem AFnsOwn.snoc {base : Nat} {w w2 w3 : World} {v v' : Value} {l : List AFn} {g : AFn} {xs : List Value} {v0 v1 v2 v3 v4 v5 : Value} {D : Nat → Prop} (hf : ∀ j, j < l.length → AFnCells (fun k => v.ownBlock ≠ some k) w (fun i => vat xs (j * 6 + i)) (at' l j)) (hx : xs.length = l.length * 6)
    (hown : w3.ownsRow base 31 6 v' (l.length + 1) (xs ++ [v0, v1, v2, v3, v4, v5])) (hg : AFnCells D w2 (fun i => vat [v0, v1, v2, v3, v4, v5] i) g)
    (h1 : Stays (fun k => v.ownBlock ≠ some k) (fun k => v'.ownBlock ≠ some k) w w3) (h2 : Stays D (fun k => v'.ownBlock ≠ some k) w2 w3) : AFnsOwn base w3 v' (l ++ [g]) := by
  refine ⟨_, by rw [List.length_append]; exact hown, fun j hj => ?_⟩
  by_cases hjl : j < l.length
  · rw [at_snoc_lt hjl]
    refine ((hf j hjl).stays h1).congr fun i hi => ?_
    simp only [vat, List.getD_eq_getElem?_getD]
    rw [List.getElem?_append_left (by omega)]
  · obtain rfl : j = l.length := by simp at hj; omega
    rw [at_snoc_eq]
    refine (hg.stays h2).congr fun i hi => ?_
    simp only [vat, List.getD_eq_getElem?_getD]
    rw [List.getElem?_append_right (by omega), show l.length * 6 + i - xs.length = i by omega]

theorem norm_take (lib : List Fn) (k : Nat) (h : k < lib.length) : (normL lib).take (k + 1) = (normL lib).take k ++ [normF lib (at' lib k)] := by
  rw [normL, List.take_add_one, List.getElem?_map, List.getElem?_eq_getElem h, at_eq h]; rfl

theorem src6 (w : World) (g : Nat) (hg : g = w.heap.size) (v0 v1 v2 v3 v4 v5 : Value) (e : TypeId) : ∀ j u, [v0, v1, v2, v3, v4, v5][j]? = some u → (w.alloc (.cells #[v0, v1, v2, v3, v4, v5] e)).cell? ((⟨g, 0, none⟩ : Addr).add j) = some u := by
  intro j u hj
  subst hg
  have e0 : (⟨w.heap.size, 0, none⟩ : Addr).add j = ⟨w.heap.size, j, none⟩ := by
    simp only [Addr.add]; split
    · subst_vars; rfl
    · simp
  rw [e0]
  exact cell_blk (heap_alloc_new w _) j (by simpa using hj)

theorem norm_small {lib : List Fn} {f : Fn} (h : sizeN f.body ≤ 2000) (hp : ∀ j, j < f.params.length → (at' f.params j).name.size ≤ maxLen) : (normF lib f).result.size ≤ maxLen := by
  have hse := parsEnv_small f.params hp f.params.length (Nat.le_refl _)
  rw [List.take_length] at hse
  exact (expr_small lib f.body (parsEnv f.params) [] hse (fun j => by simp [at']; exact Nat.zero_le _) (by simp; omega)).1

/-- what Normalize leaves -/
def NormPost (lib : List Fn) (w : World) (e : Ending) (w' : World) : Prop :=
  ((validE lib).2 ≠ 0 → e = .returned (.tuple #[.slice none 0 0, .int .i64 (validE lib).2])) ∧ ((validE lib).2 = 0 → ∃ v, e = .returned (.tuple #[v, .int .i64 0]) ∧ AFnsAt Any w' v (normL lib)) ∧ Below w.heap.size w w'

set_option maxRecDepth 100000 in
set_option maxHeartbeats 6400000 in
theorem normalizeL_any (lv : Value) (lib : List Fn) (A : Nat → Prop) (w : World) (hl : FnsAt A w lv lib) (hmod : Modest lib) (ht : Tab w) :
    Calls Tryz.prog 36 #[lv] w (NormPost lib w) := by
  obtain ⟨hll, la, lc, rfl⟩ := hl.form
  unfold maxLen at hll
  have hold : FnsAt (fun k => k < w.heap.size) w (.slice la lib.length lc) lib := hl.stays ⟨Nat.le_refl _, fun b hb _ => ⟨rfl, hb⟩⟩
  have HL := Lib.hid hold
  have HV := Lib.hid (valid_any _ lib A w hl hmod)
  have HT := Lib.hid ht
  clear hl hold ht
  by_cases hv : (validE lib).2 = 0
  · have hv0 : ((validE lib).2 != 0) = false := by simp [hv]
    have HOK : Hid (∀ i, i < lib.length → FnOk lib i) := Lib.hid (fun i h => valid_ok hv h)
    have HVE := Lib.hid hv
    have hlen : lib.length ≤ 30 := by
      rcases Nat.lt_or_ge 30 lib.length with h | h
      · have := (valid_ok hv (i := 30) h).lt; omega
      · exact h
    clear hv
    go_enter Tryz.func36, Tryz.ntmps36
    go_wp2_with (go_at_call 22; refine HV.out.mono ?_; rintro e w1 ⟨rfl, hb1⟩)
    go_loopw [19, 6] (fun i v wr => ∃ k : Nat, i = .int .i64 k ∧ k ≤ lib.length ∧ Below w.heap.size w wr ∧ AFnsOwn w.heap.size wr v ((normL lib).take k)) (fun i _ _ => lib.length - (intOf i).toNat)
    case atStart => exact ⟨0, rfl, Nat.zero_le _, hb1, AFnsOwn.nil _ _⟩
    case round =>
      obtain ⟨k, rfl, hk, hbl, xs, hrow, hcs⟩ := hrel
      have hlk : ((normL lib).take k).length = k := by rw [List.length_take, normL, List.length_map]; omega
      rw [hlk] at hrow
      obtain ⟨va, vc, rfl⟩ := row_form hrow
      have HCS := Lib.hid hcs
      have HROW := Lib.hid hrow
      have HLK := Lib.hid hlk
      clear hcs hrow hlk
      by_cases hlt : k < lib.length
      · obtain ⟨b, off, cap', pa, pc, ka, kc, he, hb, _, _, c0, c1, c2, c3, c4, c5, c6, hsn, hpar, hnd⟩ := (HL.out.stays (Stays.of_below hbl)).at hlt
        simp only [Value.slice.injEq] at he
        obtain ⟨rfl, -, rfl⟩ := he
        have hA1 : Below wr.heap.size wr (wr.alloc (.cells #[.string (at' lib k).name, .slice pa (at' lib k).params.length pc, .bool (at' lib k).list, .int .u8 (at' lib k).body.kind, .int .i64 (at' lib k).body.num, .string (at' lib k).body.name, .slice ka (at' lib k).body.kids.length kc] 37)) := (Below.refl _ _).alloc (Nat.le_refl _) _
        have hB1 : Below w.heap.size w (wr.alloc (.cells #[.string (at' lib k).name, .slice pa (at' lib k).params.length pc, .bool (at' lib k).list, .int .u8 (at' lib k).body.kind, .int .i64 (at' lib k).body.num, .string (at' lib k).body.name, .slice ka (at' lib k).body.kids.length kc] 37)) := hbl.trans (hA1.mono hbl.size)
        have hok := HOK.out k hlt
        have HNO := Lib.hid (normalize_any _ lib (at' lib k) pa ka pc kc (fun k => k < w.heap.size) _ (HL.out.stays (Stays.of_below hB1)) (hpar.stays (Stays.of_below hA1)) (hnd.stays (Stays.of_below hA1)) hsn hok.form (check_known lib _ _ hok.check) (by have := hok.size; omega) (by have := pars_le hok.pars; omega) (HT.out.below hB1))
        have HRS : Hid ((normF lib (at' lib k)).result.size ≤ maxLen) := Lib.hid (norm_small hok.size (fun j hj => by obtain ⟨_, _, _, _, _, _, _, _, _, h⟩ := hpar.at hj; exact h))
        have HNF : Hid ((normF lib (at' lib k)).name = (at' lib k).name ∧ (normF lib (at' lib k)).params = (at' lib k).params ∧ (normF lib (at' lib k)).list = (at' lib k).list) := Lib.hid ⟨rfl, rfl, rfl⟩
        clear hpar hnd hok
        go_wp2_with fail
        refine HNO.out.mono ?_
        rintro e w2 ⟨pv, tv, bv, rfl, hpv, htv, hbv, hb2⟩
        generalize hG : normF lib (at' lib k) = G at *
        have HG := Lib.hid hG
        clear hG HNO
        obtain ⟨_, a1, e1, rfl⟩ := hpv.form
        obtain ⟨_, a3, e3, rfl⟩ := htv.form
        obtain ⟨_, a4, e4, rfl⟩ := hbv.form
        have HPV := Lib.hid hpv
        have HTV := Lib.hid htv
        have HBV := Lib.hid hbv
        have hB2 : Below w.heap.size w w2 := hB1.trans (hb2.mono hB1.size)
        have hAL : Below w2.heap.size w2 (w2.alloc (.cells #[.string (at' lib k).name, .slice a1 (at' lib k).params.length e1, .bool (at' lib k).list, .slice a3 G.temps.length e3, .slice a4 G.body.length e4, .string G.result] 31)) := (Below.refl _ _).alloc (Nat.le_refl _) _
        have hW2 : Below wr.heap.size wr (w2.alloc (.cells #[.string (at' lib k).name, .slice a1 (at' lib k).params.length e1, .bool (at' lib k).list, .slice a3 G.temps.length e3, .slice a4 G.body.length e4, .string G.result] 31)) := hA1.trans ((hb2.mono hA1.size).trans (hAL.mono (Nat.le_trans hA1.size hb2.size)))
        have HRW := Lib.hid (row_below HROW.out hW2)
        have HSRC := Lib.hid (src6 w2 w2.heap.size rfl (.string (at' lib k).name) (.slice a1 (at' lib k).params.length e1) (.bool (at' lib k).list) (.slice a3 G.temps.length e3) (.slice a4 G.body.length e4) (.string G.result) 31)
        clear hpv htv hbv
        go_wp2_with (at_builtin; refine wpl_append TAFn rfl (by decide) rfl (.tmp 23) (.tmp 27) rfl rfl rfl HRW.out (.inr ⟨⟨w2.heap.size, 0, none⟩, 1, rfl, HSRC.out⟩) rfl (by simp [Value.oneCell']) (by unfold maxLen; omega) (by omega) (by have := hB2.size; have := hAL.size; omega) ?_; intro v' w3 hown hg hn; have HO := Lib.hid hown; have HGR : Hid (World.grownBy _ w3 (Value.slice va k vc).ownBlock) := Lib.hid hg; have HN : Hid (NewOr _ (.slice va k vc) v') := Lib.hid hn; obtain ⟨a5, c5', rfl⟩ := row_form hown; clear hown hg hn)
        obtain ⟨f0, f1, f2⟩ := HNF.out
        have hgen : ∀ b, b < w2.heap.size → (Value.slice va k vc).ownBlock ≠ some b → w3.heap[b]? = w2.heap[b]? ∧ (Value.slice a5 (k + 1) c5').ownBlock ≠ some b := fun b hb hne => by
          refine ⟨(HGR.out.block b (Nat.lt_of_lt_of_le hb hAL.size) (fun e => hne e.symm)).trans (hAL.block b hb), fun e => ?_⟩
          rcases HN.out b e with e | e
          · exact hne e
          · have := hAL.size; omega
        have hst1 : Stays (fun j => (Value.slice va k vc).ownBlock ≠ some j) (fun j => (Value.slice a5 (k + 1) c5').ownBlock ≠ some j) wr w3 := by
          refine ⟨Nat.le_trans hW2.size HGR.out.size, fun b hb hne => ?_⟩
          have hb' : b < w2.heap.size := Nat.lt_of_lt_of_le hb (Nat.le_trans hA1.size hb2.size)
          obtain ⟨g1, g2⟩ := hgen b hb' hne
          exact ⟨g1.trans ((hb2.block b (Nat.lt_of_lt_of_le hb hA1.size)).trans (hA1.block b hb)), g2⟩
        have hst2 : Stays (NewA (fun k => k < w.heap.size) (wr.alloc (.cells #[.string (at' lib k).name, .slice pa (at' lib k).params.length pc, .bool (at' lib k).list, .int .u8 (at' lib k).body.kind, .int .i64 (at' lib k).body.num, .string (at' lib k).body.name, .slice ka (at' lib k).body.kids.length kc] 37))) (fun j => (Value.slice a5 (k + 1) c5').ownBlock ≠ some j) w2 w3 := by
          refine ⟨Nat.le_trans hAL.size HGR.out.size, fun b hb hd => hgen b hb (fun e => ?_)⟩
          have hr := HROW.out.lt b e
          rcases hd with hd | hd | hd
          · omega
          · have := hA1.size; omega
          · have := HT.out.lt b hd; omega
        have hcell : AFnCells (NewA (fun k => k < w.heap.size) (wr.alloc (.cells #[.string (at' lib k).name, .slice pa (at' lib k).params.length pc, .bool (at' lib k).list, .int .u8 (at' lib k).body.kind, .int .i64 (at' lib k).body.num, .string (at' lib k).body.name, .slice ka (at' lib k).body.kids.length kc] 37))) w2 (fun i => vat [.string (at' lib k).name, .slice a1 (at' lib k).params.length e1, .bool (at' lib k).list, .slice a3 G.temps.length e3, .slice a4 G.body.length e4, .string G.result] i) G :=
          ⟨by rw [f0]; rfl, by rw [f1]; exact HPV.out, by rw [f2]; rfl, HTV.out, HBV.out, rfl, by rw [f0]; exact hsn, HRS.out⟩
        have hown := HO.out
        have hsn2 := AFnsOwn.snoc (base := w.heap.size) (l := (normL lib).take k) (g := G) HCS.out (by rw [HLK.out]; exact HROW.out.1) (by rw [HLK.out]; exact hown) hcell hst1 hst2
        rw [← HG.out, ← norm_take lib k hlt] at hsn2
        refine ⟨⟨k + 1, by go_num, by omega, ?_, hsn2⟩, by simp [intOf]; omega⟩
        exact (hbl.trans (hW2.mono hbl.size)).grown HGR.out (Nat.le_trans hbl.size hW2.size) (fun j e => (HROW.out.lt j e).1)
      · obtain rfl : k = lib.length := by omega
        have hN : AFnsAt Any wr (.slice va lib.length vc) (normL lib) := by
          have h1 : AFnsOwn w.heap.size wr (.slice va lib.length vc) ((normL lib).take lib.length) := ⟨xs, by rw [HLK.out]; exact HROW.out, HCS.out⟩
          rw [List.take_of_length_le (by simp [normL])] at h1
          exact h1.shut (by unfold maxLen; simp [normL]; omega)
        have HN := Lib.hid hN
        have hlt' : ¬ (lib.length : Int) < (lib.length : Int) := by omega
        clear hN
        go_wp2
        go_ret2
        exact ⟨fun h => absurd HVE.out h, fun _ => ⟨_, rfl, HN.out⟩, hbl⟩
  · have hv0 : ((validE lib).2 != 0) = true := by simpa using hv
    have HVE := Lib.hid hv
    clear hv
    go_enter Tryz.func36, Tryz.ntmps36
    go_wp2_with (go_at_call 22; refine HV.out.mono ?_; rintro e w1 ⟨rfl, hb1⟩)
    go_ret2
    exact ⟨fun _ => rfl, fun h => absurd h HVE.out, hb1⟩
end Go.Proofs.YtehmmokkjojggabGreatDoor
/- Trees that are built: literal rows of trees, and the smallest functions of package cleangen. -/
namespace Go.Proofs.YtehmmokkjojggabGreatDoor
set_option linter.unusedVariables false
open Go.RowKit

theorem nd_cells {A : Nat → Prop} {w : World} {a b c d : Value} {n : Nd} (h : NdAt A w (.agg #[a, b, c, d]) n) : a = .int .u8 n.kind ∧ b = .int .i64 n.num ∧ c = .string n.name ∧ KidsAt A w d n.kids ∧ n.Ok1 := by
  obtain ⟨h1, kv, he, h2⟩ := h
  simp only [Value.agg.injEq, Array.mk.injEq, List.cons.injEq, and_true] at he
  obtain ⟨rfl, rfl, rfl, rfl⟩ := he
  exact ⟨rfl, rfl, rfl, h2, h1⟩

/-- a literal row of trees -/
theorem kids_lit {A : Nat → Prop} {w : World} {g : Nat} {cs : Array Value} {l : List Nd} (h : w.heap[g]? = some (.cells cs 35 (0, 0))) (hA : A g) (hl : l.length ≤ 1000)
    (hc : ∀ j, j < l.length → ∃ d, cs[j * 4]? = some (.int .u8 (at' l j).kind) ∧ cs[j * 4 + 1]? = some (.int .i64 (at' l j).num) ∧ cs[j * 4 + 2]? = some (.string (at' l j).name) ∧ cs[j * 4 + 3]? = some d ∧ KidsAt A w d (at' l j).kids ∧ (at' l j).Ok1) :
    KidsAt A w (.slice (some ⟨g, 0, none⟩) l.length l.length) l := by
  refine .mk _ l (fun j i => cs.getD (j * 4 + i) undef) ⟨by unfold maxLen; omega, _, _, rfl, Nat.le_refl _, nofun, fun _ => ⟨g, 0, rfl, by rw [Array.getElem?_eq_some_iff] at h; exact h.1, hA, fun j hj i hi => ?_⟩⟩ (fun j hj => ?_) (fun j hj => ?_)
  · obtain ⟨d, h0, h1, h2, h3, _⟩ := hc j hj
    have e : (0 : Nat) + j * 4 + i = j * 4 + i := by omega
    rw [e]
    simp only [World.cell?, h]
    match i, hi with
    | 0, _ => simp only [Nat.add_zero, h0]; simp [Array.getD_eq_getD_getElem?, h0]
    | 1, _ => simp only [h1]; simp [Array.getD_eq_getD_getElem?, h1]
    | 2, _ => simp only [h2]; simp [Array.getD_eq_getD_getElem?, h2]
    | 3, _ => simp only [h3]; simp [Array.getD_eq_getD_getElem?, h3]
  · obtain ⟨d, h0, h1, h2, h3, _, h5⟩ := hc j hj
    exact ⟨by simp [Array.getD_eq_getD_getElem?, h0], by simp [Array.getD_eq_getD_getElem?, h1], by simp [Array.getD_eq_getD_getElem?, h2], h5⟩
  · obtain ⟨d, h0, h1, h2, h3, h4, _⟩ := hc j hj
    have : cs.getD (j * 4 + 3) undef = d := by simp [Array.getD_eq_getD_getElem?, h3]
    rw [this]; exact h4

theorem kids_1 {A : Nat → Prop} {w : World} {g : Nat} {a b c d : Value} {n : Nd} (h : w.heap[g]? = some (.cells #[a, b, c, d] 35 (0, 0))) (hA : A g) (h1 : NdAt A w (.agg #[a, b, c, d]) n) : KidsAt A w (.slice (some ⟨g, 0, none⟩) 1 1) [n] := by
  obtain ⟨rfl, rfl, rfl, k1, o1⟩ := nd_cells h1
  refine kids_lit (l := [n]) h hA (by simp) (fun j hj => ?_)
  match j, hj with
  | 0, _ => exact ⟨d, rfl, rfl, rfl, rfl, k1, o1⟩
theorem kids_2 {A : Nat → Prop} {w : World} {g : Nat} {a b c d a' b' c' d' : Value} {n n' : Nd} (h : w.heap[g]? = some (.cells #[a, b, c, d, a', b', c', d'] 35 (0, 0))) (hA : A g) (h1 : NdAt A w (.agg #[a, b, c, d]) n) (h2 : NdAt A w (.agg #[a', b', c', d']) n') : KidsAt A w (.slice (some ⟨g, 0, none⟩) 2 2) [n, n'] := by
  obtain ⟨rfl, rfl, rfl, k1, o1⟩ := nd_cells h1
  obtain ⟨rfl, rfl, rfl, k2, o2⟩ := nd_cells h2
  refine kids_lit (l := [n, n']) h hA (by simp) (fun j hj => ?_)
  match j, hj with
  | 0, _ => exact ⟨d, rfl, rfl, rfl, rfl, k1, o1⟩
  | 1, _ => exact ⟨d', rfl, rfl, rfl, rfl, k2, o2⟩
theorem kids_3 {A : Nat → Prop} {w : World} {g : Nat} {a b c d a' b' c' d' a2 b2 c2 d2 : Value} {n n' n2 : Nd} (h : w.heap[g]? = some (.cells #[a, b, c, d, a', b', c', d', a2, b2, c2, d2] 35 (0, 0))) (hA : A g) (h1 : NdAt A w (.agg #[a, b, c, d]) n) (h2 : NdAt A w (.agg #[a', b', c', d']) n') (h3 : NdAt A w (.agg #[a2, b2, c2, d2]) n2) : KidsAt A w (.slice (some ⟨g, 0, none⟩) 3 3) [n, n', n2] := by
  obtain ⟨rfl, rfl, rfl, k1, o1⟩ := nd_cells h1
  obtain ⟨rfl, rfl, rfl, k2, o2⟩ := nd_cells h2
  obtain ⟨rfl, rfl, rfl, k3, o3⟩ := nd_cells h3
  refine kids_lit (l := [n, n', n2]) h hA (by simp) (fun j hj => ?_)
  match j, hj with
  | 0, _ => exact ⟨d, rfl, rfl, rfl, rfl, k1, o1⟩
  | 1, _ => exact ⟨d', rfl, rfl, rfl, rfl, k2, o2⟩
  | 2, _ => exact ⟨d2, rfl, rfl, rfl, rfl, k3, o3⟩
theorem kids_4 {A : Nat → Prop} {w : World} {g : Nat} {a b c d a' b' c' d' a2 b2 c2 d2 a3 b3 c3 d3 : Value} {n n' n2 n3 : Nd} (h : w.heap[g]? = some (.cells #[a, b, c, d, a', b', c', d', a2, b2, c2, d2, a3, b3, c3, d3] 35 (0, 0))) (hA : A g) (h1 : NdAt A w (.agg #[a, b, c, d]) n) (h2 : NdAt A w (.agg #[a', b', c', d']) n') (h3 : NdAt A w (.agg #[a2, b2, c2, d2]) n2) (h4 : NdAt A w (.agg #[a3, b3, c3, d3]) n3) : KidsAt A w (.slice (some ⟨g, 0, none⟩) 4 4) [n, n', n2, n3] := by
  obtain ⟨rfl, rfl, rfl, k1, o1⟩ := nd_cells h1
  obtain ⟨rfl, rfl, rfl, k2, o2⟩ := nd_cells h2
  obtain ⟨rfl, rfl, rfl, k3, o3⟩ := nd_cells h3
  obtain ⟨rfl, rfl, rfl, k4, o4⟩ := nd_cells h4
  refine kids_lit (l := [n, n', n2, n3]) h hA (by simp) (fun j hj => ?_)
  match j, hj with
  | 0, _ => exact ⟨d, rfl, rfl, rfl, rfl, k1, o1⟩
  | 1, _ => exact ⟨d', rfl, rfl, rfl, rfl, k2, o2⟩
  | 2, _ => exact ⟨d2, rfl, rfl, rfl, rfl, k3, o3⟩
  | 3, _ => exact ⟨d3, rfl, rfl, rfl, rfl, k4, o4⟩

/-- the kinds of trees that are built -/
def vN (s : ByteArray) : Nd := .mk 2 0 s []
def numN (x : Int) : Nd := .mk 1 x ByteArray.empty []
def nodeN (k : Int) (s : ByteArray) (l : List Nd) : Nd := .mk k 0 s l
def blockN (l : List Nd) : Nd := nodeN 57 ByteArray.empty l
def plusN (s : ByteArray) (e : Nd) : Nd := nodeN 40 ByteArray.empty [vN s, e]
def callN (p : ByteArray) (args : List ByteArray) : Nd := nodeN 50 p (args.map vN)

theorem nd_node {A : Nat → Prop} {w : World} {k : Int} {s : ByteArray} {kv : Value} {l : List Nd} (h : KidsAt A w kv l) (hk : 0 ≤ k ∧ k ≤ 255) (hs : s.size ≤ maxLen) : NdAt A w (.agg #[.int .u8 k, .int .i64 0, .string s, kv]) (nodeN k s l) :=
  ⟨⟨hk, by unfold In64; exact ⟨by show (-9223372036854775808 : Int) ≤ 0; omega, by show (0 : Int) ≤ 9223372036854775807; omega⟩, hs⟩, kv, rfl, h⟩
theorem nd_v {A : Nat → Prop} {w : World} {s : ByteArray} (hs : s.size ≤ maxLen) : NdAt A w (.agg #[.int .u8 2, .int .i64 0, .string s, .slice none 0 0]) (vN s) := nd_node (KidsAt.nil _) (by omega) hs
theorem nd_num {A : Nat → Prop} {w : World} {x : Int} (hx : In64 x) : NdAt A w (.agg #[.int .u8 1, .int .i64 x, .string ⟨#[]⟩, .slice none 0 0]) (numN x) :=
  ⟨⟨⟨by show (0 : Int) ≤ 1; omega, by show (1 : Int) ≤ 255; omega⟩, hx, Nat.zero_le _⟩, _, rfl, KidsAt.nil _⟩
theorem cells4 {w : World} {b e : Nat} {v0 v1 v2 v3 : Value} (h : w.heap[b]? = some (.cells #[v0, v1, v2, v3] e (0, 0))) :
    w.cell? ⟨b, 0, none⟩ = some v0 ∧ w.cell? ⟨b, 1, none⟩ = some v1 ∧ w.cell? ⟨b, 2, none⟩ = some v2 ∧ w.cell? ⟨b, 3, none⟩ = some v3 :=
  ⟨cell_blk h 0 rfl, cell_blk h 1 rfl, cell_blk h 2 rfl, cell_blk h 3 rfl⟩
theorem set4 {w : World} {b e : Nat} {v0 v1 v2 v3 : Value} (h : w.heap[b]? = some (.cells #[v0, v1, v2, v3] e (0, 0))) (x0 x1 x2 x3 : Value) :
    ((((w.setCell ⟨b, 0, none⟩ x0).setCell ⟨b, 1, none⟩ x1).setCell ⟨b, 2, none⟩ x2).setCell ⟨b, 3, none⟩ x3).heap[b]? = some (.cells #[x0, x1, x2, x3] e (0, 0)) := by
  have h3 := heap_setCell_same _ b 3 _ _ x3 (heap_setCell_same _ b 2 _ _ x2 (heap_setCell_same _ b 1 _ _ x1 (heap_setCell_same w b 0 _ _ x0 h)))
  simpa only [List.setIfInBounds_toArray, List.set_cons_zero, List.set_cons_succ] using h3
theorem NdAt.form {A : Nat → Prop} {w : World} {v : Value} {n : Nd} (h : NdAt A w v n) : ∃ ka kc, v = .agg #[.int .u8 n.kind, .int .i64 n.num, .string n.name, .slice ka n.kids.length kc] := by
  obtain ⟨_, _, ka, kc, e, _⟩ := h.open; exact ⟨ka, kc, e⟩
end Go.Proofs.YtehmmokkjojggabGreatDoor
