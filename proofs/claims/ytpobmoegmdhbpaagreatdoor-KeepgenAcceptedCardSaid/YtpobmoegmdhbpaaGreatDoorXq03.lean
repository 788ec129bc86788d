/- Contracts and plain lemmas (AnfG, AnfH, AnfI, PAnf2): no statement of the seat is proved here. -/
import Derived.Test.YtpobmoegmdhbpaaGreatDoorXq02
import Derived.Deep.DeepCutAuto
import Derived.StillTailTactics
/- Walks of package anf:bind. -/
set_option linter.unusedSimpArgs false
set_option linter.unusedVariables false
set_option linter.unusedSectionVars false
set_option maxRecDepth 100000
set_option maxHeartbeats 6400000
namespace Go.Proofs.YtpobmoegmdhbpaaGreatDoor
open Go.RowKit
theorem StrsAt.form' {A:Nat→Prop} {w:World} {v:Value} {l:List ByteArray} (h:StrsAt A w v l):∃ a c,v=.slice a l.length c:=by
 obtain ⟨cs,h,_⟩:=h;exact h.form
theorem zlz (w:World) (x y:Obj):((w.alloc x).alloc y).heap[w.heap.size]?=some x:=by
 rw [Below.heap_alloc _ _ _ (by simp)];exact zah w x
theorem ziw {bo bm pb k:Nat} {tv bv:Value} (h:k=bo∨tv.ownBlock=some k):Mut bo bm pb tv bv k:=by
 rcases h with h|h
 · exact .inl h
 · exact .inr (.inr (.inr (.inl h)))
theorem ziH (n:Nat):(tname n).size≤n+2:=by
 have:=zlg n
 show (116 :: Lib.decDigits n).toArray.size≤_
 simp;omega
theorem cells8 {w:World} {b e:Nat} {v0 v1 v2 v3 v4 v5 v6 v7:Value} (h:w.heap[b]?=some (.cells #[v0,v1,v2,v3,v4,v5,v6,v7] e (0,0))):
 w.cell? ⟨b,0,none⟩=some v0∧w.cell? ⟨b,1,none⟩=some v1∧w.cell? ⟨b,2,none⟩=some v2∧w.cell? ⟨b,3,none⟩=some v3∧w.cell? ⟨b,4,none⟩=some v4∧w.cell? ⟨b,5,none⟩=some v5∧w.cell? ⟨b,6,none⟩=some v6∧w.cell? ⟨b,7,none⟩=some v7:=
 ⟨zae h 0 rfl,zae h 1 rfl,zae h 2 rfl,zae h 3 rfl,zae h 4 rfl,zae h 5 rfl,zae h 6 rfl,zae h 7 rfl⟩
theorem src8 (w:World) (v0 v1 v2 v3 v4 v5 v6 v7:Value) (e:TypeId):∀ j u,[v0,v1,v2,v3,v4,v5,v6,v7][j]?=some u→(w.alloc (.cells #[v0,v1,v2,v3,v4,v5,v6,v7] e)).cell? ((⟨w.heap.size,0,none⟩:Addr).add j)=some u:=by
 intro j u hj
 have e0:(⟨w.heap.size,0,none⟩:Addr).add j=⟨w.heap.size,j,none⟩:=by
  simp only [Addr.add];split
  · subst_vars;rfl
  · simp
 rw [e0]
 exact zae (heap_alloc_new w _) j (by simpa using hj)
theorem last8 {w:World} {base e n:Nat} {v:Value} {xs:List Value} {z0 z1 z2 z3 z4 z5 z6 z7:Value} (h:w.ownsRow base e 8 v (n+1) (xs ++ [z0,z1,z2,z3,z4,z5,z6,z7])) (hx:xs.length=n * 8):
 ∃ g cap,v=.slice (some ⟨g,0,none⟩) (n+1) cap∧g < w.heap.size∧(∀ j,w.frozen? ⟨g,j,none⟩=false)∧w.cell? ⟨g,n * 8,none⟩=some z0∧w.cell? ⟨g,n * 8+1,none⟩=some z1∧w.cell? ⟨g,n * 8+2,none⟩=some z2∧w.cell? ⟨g,n * 8+3,none⟩=some z3∧
   w.cell? ⟨g,n * 8+4,none⟩=some z4∧w.cell? ⟨g,n * 8+5,none⟩=some z5∧w.cell? ⟨g,n * 8+6,none⟩=some z6∧w.cell? ⟨g,n * 8+7,none⟩=some z7:=by
 obtain ⟨g,cap,cur,rfl,hnc,hh,hs,hm,hg,ht,hcl⟩:=zeq h (by omega)
 refine ⟨g,cap,rfl,by rw [Array.getElem?_eq_some_iff] at hh;exact hh.1,fun j=>by simp [World.frozen?,hh],?_⟩
 refine ⟨hcl _ _ ?_,hcl _ _ ?_,hcl _ _ ?_,hcl _ _ ?_,hcl _ _ ?_,hcl _ _ ?_,hcl _ _ ?_,hcl _ _ ?_⟩ <;> (rw [List.getElem?_append_right (by omega),hx];simp)
theorem VSt.grow {A:Nat→Prop} {W WB w2 X:World} {bV bo bm pb po N:Nat} {c0 c1 c2 c4 c4' c5 tv bv v' lv:Value} {lib:List Fn} {ts:List Par} {bs:List Bd} {env:Env} {xs:List Value} {v0 v1 v2 v3 v4 v5 v6 v7:Value} {b:Bd}
 (h:VSt A W bV bo bm pb po N c0 c1 c2 c4 c5 tv bv lv lib ts bs env) (hb:Below W.heap.size W WB) (hg:WB.grownBy w2 bv.ownBlock) (hn:NewOr WB bv v') (hk:Keeps w2 X (fun k=>v'.ownBlock=some k∨k=pb))
 (ho:OutAt X bo c0 c1 c2 c4' c5 tv ts) (hp:PtrAt X bo pb po v' c4') (hr:X.ownsRow 0 116 8 v' (bs.length+1) (xs ++ [v0,v1,v2,v3,v4,v5,v6,v7])) (hx:xs.length=bs.length * 8)
 (hcs:∀ j,j < bs.length→BdCells A W (fun i=>vat xs (j * 8+i)) (at' bs j)) (hbc:BdCells A W (fun i=>vat [v0,v1,v2,v3,v4,v5,v6,v7] i) b):
 VSt A X bV bo bm pb po N c0 c1 c2 c4' c5 tv v' lv lib ts (bs ++ [b]) env∧Keeps W X (Mut bo bm pb tv bv)∧NewOr W bv v':=by
 have hlt:=h.mutlt
 have hn':NewOr W bv v':=fun k e=>by
  rcases hn k e with e|e
  · exact .inl e
  · exact .inr (Nat.le_trans hb.size e)
 have hK:Keeps W X (fun k=>bv.ownBlock=some k∨k=pb):=by
  refine (Keeps.of_below _ hb).trans ((Keeps.of_grown (S:=fun k=>bv.ownBlock=some k∨k=pb) hg (fun k e=>.inl (.inl e))).trans hk (fun k e=>?_)) (fun k e=>.inl e)
  rcases e with e|e
  · rcases hn k e with e|e
    · exact .inl (.inl e)
    · exact .inr e
  · exact .inl (.inr e)
 have hA:∀ k,A k→¬ (bv.ownBlock=some k∨k=pb):=by
  rintro k a (e|e)
  · exact h.mutA k (.inr (.inr (.inr (.inr e)))) a
  · exact h.mutA k (.inr (.inr (.inl e))) a
 have hne:∀ k,k < W.heap.size→bv.ownBlock≠some k→v'.ownBlock≠some k:=fun k hk' h1 e=>by
  rcases hn' k e with e|e
  · exact h1 e
  · omega
 have hst:Stays A A W X:=hK.stays fun k a _=>hA k a
 refine ⟨?_,hK.mono (by rintro k (e|e);exact .inr (.inr (.inr (.inr e)));exact .inr (.inr (.inl e))),hn'⟩
 exact {
  out:=ho
  vis:=h.vis.keeps hK (hA _ h.visA)
  lib:=h.lib.stays hst
  map:=hK.smap h.map (by rintro (e|e);exact h.bvbm e;exact h.pbbm e.symm)
  ptr:=hp
  row:=BdsOwn.snoc hr hx (fun j hj=>(hcs j hj).stays hst) (hbc.stays hst)
  tab:=h.tab.stays hK (fun g e=>hA g (h.tabA g e))
  tabA:=h.tabA
  visA:=h.visA
  alt:=fun k a=>Nat.lt_of_lt_of_le (h.alt k a) hK.size
  mutA:=by
   intro k hm a
   rcases Mut.new hm (NewOr.refl W tv) hn' with e|e
   · exact h.mutA k e a
   · have:=h.alt k a;omega
  bobm:=h.bobm
  pbbm:=h.pbbm
  tvbm:=h.tvbm
  tvpb:=h.tvpb
  bvbo:=hne _ h.out.lt h.bvbo
  bvbm:=hne _ h.map.lt h.bvbm
  bvpb:=hne _ (hlt _ (.inr (.inr (.inl rfl)))) h.bvpb
  sep:=fun k e1 e2=>by
   rcases hn' k e2 with e|e
   · exact h.sep k e1 e
   · have:=hlt k (.inr (.inr (.inr (.inl e1))));omega }
abbrev set8 (w:World) (g o:Nat) (v0 v1 v2 v3 v4 v5 v6 v7:Value):World:=(((((((w.setCell ⟨g,o,none⟩ v0).setCell ⟨g,o+1,none⟩ v1).setCell ⟨g,o+2,none⟩ v2).setCell ⟨g,o+3,none⟩ v3).setCell ⟨g,o+4,none⟩ v4).setCell ⟨g,o+5,none⟩ v5).setCell ⟨g,o+6,none⟩ v6).setCell ⟨g,o+7,none⟩ v7
theorem VSt.stored {A:Nat→Prop} {W WB w2:World} {bV bo bm pb po N g cap:Nat} {c0 c1 c2 c4 c5 tv bv lv:Value} {lib:List Fn} {ts:List Par} {bs:List Bd} {env:Env} {xs zs:List Value} {v0 v1 v2 v3 v4 v5 v6 v7:Value} {b:Bd}
 (h:VSt A W bV bo bm pb po N c0 c1 c2 c4 c5 tv bv lv lib ts bs env) (hb:Below W.heap.size W WB) (hg:WB.grownBy w2 bv.ownBlock) (hn:NewOr WB bv (.slice (some ⟨g,0,none⟩) (bs.length+1) cap))
 (hr:w2.ownsRow 0 116 8 (.slice (some ⟨g,0,none⟩) (bs.length+1) cap) (bs.length+1) (xs ++ zs)) (hx:xs.length=bs.length * 8) (hz:zs.length=8)
 (hcs:∀ j,j < bs.length→BdCells A W (fun i=>vat xs (j * 8+i)) (at' bs j)) (hbc:BdCells A W (fun i=>vat [v0,v1,v2,v3,v4,v5,v6,v7] i) b):
 ∀ X,(X=(set8 w2 g (bs.length * 8) v0 v1 v2 v3 v4 v5 v6 v7).setCell ⟨pb,po,none⟩ (.slice (some ⟨g,0,none⟩) (bs.length+1) cap)∨X=set8 (w2.setCell ⟨pb,po,none⟩ (.slice (some ⟨g,0,none⟩) (bs.length+1) cap)) g (bs.length * 8) v0 v1 v2 v3 v4 v5 v6 v7)→
 ∃ c4',VSt A X bV bo bm pb po N c0 c1 c2 c4' c5 tv (.slice (some ⟨g,0,none⟩) (bs.length+1) cap) lv lib ts (bs ++ [b]) env∧Keeps W X (Mut bo bm pb tv bv)∧NewOr W bv (.slice (some ⟨g,0,none⟩) (bs.length+1) cap)∧(pb≠bo→c4'=c4):=by
 have hlt:=h.mutlt
 have hV2:OutAt w2 bo c0 c1 c2 c4 c5 tv ts∧PtrAt w2 bo pb po bv c4:=by
  have hk:Keeps W w2 (fun k=>bv.ownBlock=some k):=(Keeps.of_below _ hb).trans (Keeps.of_grown (S:=fun k=>bv.ownBlock=some k) hg (fun k e=>.inl e)) (fun k e=>.inl e)
  exact ⟨h.out.keeps hk h.bvbo (fun k e e2=>h.sep k e e2),h.ptr.keeps hk h.bvpb⟩
 obtain ⟨ho2,hp2⟩:=hV2
 have hgne:∀ k,k < W.heap.size→bv.ownBlock≠some k→k≠g:=fun k hk h1 e=>by
  subst e
  rcases hn k rfl with e|e
  · exact h1 e
  · have:=hb.size;omega
 have hgbo:bo≠g:=hgne _ h.out.lt h.bvbo
 have hgpb:pb≠g:=hgne _ (hlt _ (.inr (.inr (.inl rfl)))) h.bvpb
 have hgtv:∀ k,tv.ownBlock=some k→k≠g:=fun k e e2=>by
  subst e2
  rcases hn k rfl with e'|e'
  · exact h.sep k e e'
  · have:=hlt k (.inr (.inr (.inr (.inl e))));have:=hb.size;omega
 rintro X (rfl|rfl)
 · obtain ⟨r1,r2⟩:=zgR (n:=bs.length) v0 v1 v2 v3 v4 v5 v6 v7 hr rfl hx hz
   have ho3:=ho2.keeps r2 hgbo hgtv
   have hp3:=hp2.keeps r2 hgpb
   obtain ⟨c4',a1,a2,a3⟩:=zin (.slice (some ⟨g,0,none⟩) (bs.length+1) cap) hp3 ho3 h.tvpb
   have hks:=zaf (set8 w2 g (bs.length * 8) v0 v1 v2 v3 v4 v5 v6 v7) pb po (.slice (some ⟨g,0,none⟩) (bs.length+1) cap)
   have r3:=zaD r1 hks (fun k e e2=>by simp only [Value.ownBlock,Option.some.injEq] at e;exact hgpb ((show k=pb from e2) ▸ e.symm))
   obtain ⟨b1,b2,b3⟩:=h.grow hb hg hn ((r2.mono (T:=fun k=>(Value.slice (some ⟨g,0,none⟩) (bs.length+1) cap).ownBlock=some k∨k=pb) (fun k e=>.inl (by simp [Value.ownBlock,(show k=g from e)]))).same (hks.mono (fun k e=>.inr e))) a1 a2 r3 hx hcs hbc
   exact ⟨c4',b1,b2,b3,a3⟩
 · obtain ⟨c4',a1,a2,a3⟩:=zin (.slice (some ⟨g,0,none⟩) (bs.length+1) cap) hp2 ho2 h.tvpb
   have hks:=zaf w2 pb po (.slice (some ⟨g,0,none⟩) (bs.length+1) cap)
   have r3:=zaD hr hks (fun k e e2=>by simp only [Value.ownBlock,Option.some.injEq] at e;exact hgpb ((show k=pb from e2) ▸ e.symm))
   obtain ⟨r1,r2⟩:=zgR (n:=bs.length) v0 v1 v2 v3 v4 v5 v6 v7 r3 rfl hx hz
   have ho3:=a1.keeps r2 hgbo hgtv
   have hp3:=a2.keeps r2 hgpb
   obtain ⟨b1,b2,b3⟩:=h.grow hb hg hn ((hks.mono (T:=fun k=>(Value.slice (some ⟨g,0,none⟩) (bs.length+1) cap).ownBlock=some k∨k=pb) (fun k e=>.inr e)).same (r2.mono (fun k e=>.inl (by simp [Value.ownBlock,(show k=g from e)])))) ho3 hp3 r1 hx hcs hbc
   exact ⟨c4',b1,b2,b3,a3⟩
theorem VSt.headAt {A:Nat→Prop} {W WB w2:World} {bV bo bm pb po N:Nat} {c0 c1 c2 c4 c5 tv bv lv:Value} {lib:List Fn} {ts:List Par} {bs:List Bd} {env:Env}
 (h:VSt A W bV bo bm pb po N c0 c1 c2 c4 c5 tv bv lv lib ts bs env) (hb:Below W.heap.size W WB) (hg:WB.grownBy w2 bv.ownBlock):w2.cell? ⟨pb,po,none⟩=some bv∧w2.frozen? ⟨pb,po,none⟩=false:=by
 have hk:Keeps W w2 (fun k=>bv.ownBlock=some k):=(Keeps.of_below _ hb).trans (Keeps.of_grown (S:=fun k=>bv.ownBlock=some k) hg (fun k e=>.inl e)) (fun k e=>.inl e)
 exact (h.ptr.keeps hk h.bvpb).cell (h.out.keeps hk h.bvbo (fun k e e2=>h.sep k e e2))
def BindPost (A:Nat→Prop) (W:World) (bV bo bm pb po N:Nat) (c0 c1 c2 c4 c5 tv bv lv:Value) (lib:List Fn) (ts:List Par) (bs:List Bd) (env:Env) (X:World):Prop:=
 ∃ v' c4',VSt A X bV bo bm pb po N c0 c1 c2 c4' c5 tv v' lv lib ts bs env∧Keeps W X (Mut bo bm pb tv bv)∧NewOr W bv v'∧(pb≠bo→c4'=c4)
theorem zmR (A:Nat→Prop) (w:World) (bV bo bm pb po N:Nat) (c0 c1 c2 c4 c5 tv bv lv:Value) (lib:List Fn) (ts:List Par) (bs:List Bd) (env:Env) (to0 name:ByteArray) (l0 list:Bool) (op num:Int) (av hv ev:Value) (args:List ByteArray) (thn els:List Bd)
 (h:VSt A w bV bo bm pb po N c0 c1 c2 c4 c5 tv bv lv lib ts bs env) (ha:StrsAt A w av args) (ht:BdsAt A w hv thn) (he:BdsAt A w ev els) (hop:0≤op∧op≤255) (hnum:In64 num) (hname:name.size≤maxLen) (hl:ts.length < 200000) (hb:bs.length < 200000):
 Calls Tryz.prog 159 #[.pointer (some ⟨bV,0,none⟩),.agg #[.string to0,.bool l0,.int .u8 op,.int .i64 num,.string name,av,hv,ev],.bool list,.pointer (some ⟨pb,po,none⟩)] w fun e w'=>
  e=.returned (parV ⟨tname ts.length,list⟩)∧VLeft A w w' bV bo bm pb po N c0 c1 c2 c4 c5 tv bv lv lib (ts ++ [⟨tname ts.length,list⟩]) (bs ++ [.mk (tname ts.length) list op num name args thn els]) env:=by
 obtain ⟨aa,ca,rfl⟩:=ha.form'
 obtain ⟨_,ah,ch,rfl⟩:=ht.form
 obtain ⟨_,ae,ce,rfl⟩:=he.form
 have hA:Below w.heap.size w ((w.alloc (.cells #[.string to0,.bool l0,.int .u8 op,.int .i64 num,.string name,.slice aa args.length ca,.slice ah thn.length ch,.slice ae els.length ce] 116)).alloc (.cells #[.string ⟨#[]⟩,.bool false] 97)):=((Below.refl _ _).alloc (Nat.le_refl _) _).alloc (by simp) _
 have h0:=h.below hA
 have HT:=Lib.hid (zmJ _ bV bo bm c0 c1 c2 c4 c5 tv lv ts list h0.vis h0.out (fun e=>h0.mutA _ (.inl rfl) (e ▸ h0.visA)) (fun e=>h0.mutA _ (.inr (.inr (.inr (.inl e)))) h0.visA) hl h0.tab)
 have HL:=Lib.hid h.mutlt
 have hn0:=zlz w (.cells #[.string to0,.bool l0,.int .u8 op,.int .i64 num,.string name,.slice aa args.length ca,.slice ah thn.length ch,.slice ae els.length ce] 116) (.cells #[.string ⟨#[]⟩,.bool false] 97)
 have hsz0:((w.alloc (.cells #[.string to0,.bool l0,.int .u8 op,.int .i64 num,.string name,.slice aa args.length ca,.slice ah thn.length ch,.slice ae els.length ce] 116)).alloc (.cells #[.string ⟨#[]⟩,.bool false] 97)).heap.size=w.heap.size+1+1:=by simp
 have hn1':=zaw w (.cells #[.string to0,.bool l0,.int .u8 op,.int .i64 num,.string name,.slice aa args.length ca,.slice ah thn.length ch,.slice ae els.length ce] 116) (.cells #[.string ⟨#[]⟩,.bool false] 97)
 have H:=Lib.hid h
 have H0:=Lib.hid h0
 clear h h0
 go_enter Tryz.func159,Tryz.ntmps159
 go_wp2_with (go_at_call 207;refine HT.out.mono ?_;rintro e w1 ⟨rfl,tv1,ho1,hk1,hn1⟩;simp only [parV];have n1:=(hk1.block w.heap.size (by omega) (fun e=>absurd (HL.out _ (ziw e)) (Nat.lt_irrefl _))).trans hn0;have b0:=zae n1 0 rfl;have b1:=zae n1 1 rfl;have g0:=unfrozen n1 0;have g1:=unfrozen n1 1;have hlt1:w.heap.size < w1.heap.size:=Nat.lt_of_lt_of_le (by omega) hk1.size)
 have hV1:=H0.out.temp ho1 hk1 hn1
 have HMA:Hid (∀ k,Mut bo bm pb tv1 bv k→k≠w.heap.size):=Lib.hid (fun k hm e=>by
  rcases Mut.new hm hn1 (NewOr.refl _ bv) with e'|e'
  · have:=HL.out k e';omega
  · omega)
 have hV2:=(hV1.keeps (zaf w1 w.heap.size 0 (.string (tname ts.length))) (fun k a e=>by have:=H.out.alt k a;omega) HMA.out).keeps (zaf _ w.heap.size 1 (.bool list)) (fun k a e=>by have:=H.out.alt k a;omega) HMA.out
 have hAP:=(Below.refl (((w1.setCell ⟨w.heap.size,0,none⟩ (.string (tname ts.length))).setCell ⟨w.heap.size,1,none⟩ (.bool list))).heap.size ((w1.setCell ⟨w.heap.size,0,none⟩ (.string (tname ts.length))).setCell ⟨w.heap.size,1,none⟩ (.bool list))).alloc (Nat.le_refl _) (.cells #[.string (tname ts.length),.bool list] 97)
 have hV3:=hV2.below hAP
 have n2:=heap_setCell_same _ _ 1 _ _ (.bool list) (heap_setCell_same w1 _ 0 _ _ (.string (tname ts.length)) n1)
 have hlt2:w.heap.size < ((w1.setCell ⟨w.heap.size,0,none⟩ (.string (tname ts.length))).setCell ⟨w.heap.size,1,none⟩ (.bool list)).heap.size:=by simpa [World.setCell] using hlt1
 have n3:=(hAP.block w.heap.size hlt2).trans n2
 have hlw:=Nat.lt_of_lt_of_le hlt2 hAP.size
 have hsz2:((w1.setCell ⟨w.heap.size,0,none⟩ (.string (tname ts.length))).setCell ⟨w.heap.size,1,none⟩ (.bool list)).heap.size=w1.heap.size:=by simp [World.setCell]
 have hlt9:w1.heap.size < (((w1.setCell ⟨w.heap.size,0,none⟩ (.string (tname ts.length))).setCell ⟨w.heap.size,1,none⟩ (.bool list)).alloc (.cells #[.string (tname ts.length),.bool list] 97)).heap.size:=by simp [World.setCell]
 have m9:=zah ((w1.setCell ⟨w.heap.size,0,none⟩ (.string (tname ts.length))).setCell ⟨w.heap.size,1,none⟩ (.bool list)) (.cells #[.string (tname ts.length),.bool list] 97)
 rw [hsz2] at m9
 have HMB:Hid (∀ k,Mut bo bm pb tv1 bv k→k≠w.heap.size+1):=Lib.hid (fun k hm e=>by
  rcases Mut.new hm hn1 (NewOr.refl _ bv) with e'|e'
  · have:=HL.out k e';omega
  · omega)
 have HMC:Hid (∀ k,Mut bo bm pb tv1 bv k→k≠w1.heap.size):=Lib.hid (fun k hm e=>by
  have:=hV1.mutlt k hm;omega)
 have m8:=(hk1.block (w.heap.size+1) (by omega) (fun e=>by have:=HL.out _ (ziw e);omega)).trans hn1'
 have hlt8:w.heap.size+1 < w1.heap.size:=by have:=hk1.size;omega
 have m8:=((hAP.block (w.heap.size+1) (by rw [hsz2];exact hlt8)).trans (((zaf _ w.heap.size 1 (.bool list)).block (w.heap.size+1) (by simpa [World.setCell] using hlt8) (by omega)).trans ((zaf w1 w.heap.size 0 (.string (tname ts.length))).block (w.heap.size+1) hlt8 (by omega)))).trans m8
 obtain ⟨p0,p1,p2,p3,p4,p5,p6,p7⟩:=cells8 n3
 have hKW:=(((((Keeps.of_below (Mut bo bm pb tv bv) hA).trans hk1 (fun k e=>.inl (ziw e))).trans (zaf w1 w.heap.size 0 (.string (tname ts.length))) (fun k e=>.inr (by omega))).trans (zaf _ w.heap.size 1 (.bool list)) (fun k e=>.inr (by omega)))).alloc (.cells #[.string (tname ts.length),.bool list] 97)
 clear n2 n1 b0 b1 g0 g1 hAP hV2 hV1 hlt2 hsz2
 obtain ⟨q0,q1⟩:=hV3.ptr.cell hV3.out
 generalize hW:(((w1.setCell ⟨w.heap.size,0,none⟩ (.string (tname ts.length))).setCell ⟨w.heap.size,1,none⟩ (.bool list)).alloc (.cells #[.string (tname ts.length),.bool list] 97))=W at *
 obtain ⟨xs,hrow,hcs⟩:=hV3.row
 obtain ⟨ab,cb,rfl⟩:=zaG hrow
 have HCS:=Lib.hid hcs
 have HROW:=Lib.hid hrow
 have H3:=Lib.hid hV3
 have HX:Hid (xs.length=bs.length * 8):=Lib.hid hrow.1
 have HM8:=Lib.hid m8
 have HM9:=Lib.hid m9
 clear hcs hrow hV3 hW n3 m8 m9
 have hB:Below W.heap.size W (W.alloc (.cells #[.string ⟨#[]⟩,.bool false,.int .u8 0,.int .i64 0,.string ⟨#[]⟩,.slice none 0 0,.slice none 0 0,.slice none 0 0] 116)).drew:=zal ((Below.refl _ _).alloc (Nat.le_refl _) _) 1
 have HBC:Hid (BdCells A W (fun i=>vat [.string (tname ts.length),.bool list,.int .u8 op,.int .i64 num,.string name,.slice aa args.length ca,.slice ah thn.length ch,.slice ae els.length ce] i) (.mk (tname ts.length) list op num name args thn els)):=Lib.hid (by
  have hst:Stays A A w W:=hKW.stays (fun k a _ hm=>H.out.mutA k hm a)
  exact ⟨rfl,rfl,rfl,rfl,rfl,ha.stays hst,ht.stays hst,he.stays hst,by have:=ziH ts.length;unfold maxLen;simp only [Bd.to];omega,hop,hnum,hname⟩)
 have HSRC:=Lib.hid (src8 W (.string ⟨#[]⟩) (.bool false) (.int .u8 0) (.int .i64 0) (.string ⟨#[]⟩) (.slice none 0 0) (.slice none 0 0) (.slice none 0 0) 116)
 have HPN:Hid (∀ g cap,NewOr (W.alloc (.cells #[.string ⟨#[]⟩,.bool false,.int .u8 0,.int .i64 0,.string ⟨#[]⟩,.slice none 0 0,.slice none 0 0,.slice none 0 0] 116)).drew (.slice ab bs.length cb) (.slice (some ⟨g,0,none⟩) (bs.length+1) cap)→g≠pb):=Lib.hid (by
  intro g cap hn e
  subst e
  rcases hn g rfl with e|e
  · exact H3.out.bvpb e
  · have:=H3.out.mutlt g (.inr (.inr (.inl rfl)))
    have:=hB.size
    omega)
 have hil:(bs.length:Int) < (bs.length:Int)+1:=by omega
 have hlp:=H3.out.mutlt pb (.inr (.inr (.inl rfl)))
 have k0:=(hB.cell (p:=⟨w.heap.size,0,none⟩) hlw).trans p0
 have k1:=(hB.cell (p:=⟨w.heap.size,1,none⟩) hlw).trans p1
 have k2:=(hB.cell (p:=⟨w.heap.size,2,none⟩) hlw).trans p2
 have k3:=(hB.cell (p:=⟨w.heap.size,3,none⟩) hlw).trans p3
 have k4:=(hB.cell (p:=⟨w.heap.size,4,none⟩) hlw).trans p4
 have k5:=(hB.cell (p:=⟨w.heap.size,5,none⟩) hlw).trans p5
 have k6:=(hB.cell (p:=⟨w.heap.size,6,none⟩) hlw).trans p6
 have k7:=(hB.cell (p:=⟨w.heap.size,7,none⟩) hlw).trans p7
 have kp:=(hB.cell (p:=⟨pb,po,none⟩) hlp).trans q0
 go_cut [24] (fun s24 wx=>BindPost A W bV bo bm pb po N c0 c1 c2 c4 c5 tv1 (.slice ab bs.length cb) lv lib (ts ++ [⟨tname ts.length,list⟩]) (bs ++ [.mk (tname ts.length) list op num name args thn els]) env wx)
 case first=>
  go_region_law (
   (refine zbF TBd (by rfl) (by decide) (by rfl) (.tmp 20) (.tmp 23) (by rfl) (by rfl) (by rfl) (zaM HROW.out hB) (.inr ⟨⟨W.heap.size,0,none⟩,1,by rfl,HSRC.out⟩) (by rfl) (by simp [Value.oneCell']) (by unfold maxLen;omega) (by omega) (Nat.zero_le _) ?_;intro v' w2 hown hg hnew;obtain ⟨g,cap,rfl,hglt,hfz,z0,z1,z2,z3,z4,z5,z6,z7⟩:=last8 hown HX.out;have hgp:=HPN.out g cap hnew;have HP:=Lib.hid (H3.out.stored hB hg hnew hown HX.out rfl HCS.out HBC.out);obtain ⟨y0,y1⟩:=H3.out.headAt hB hg;clear hown hg hnew))
  all_goals
   clear z0 z1 z2 z3 z4 z5 z6 z7 y0 y1 k0 k1 k2 k3 k4 k5 k6 k7 kp p0 p1 p2 p3 p4 p5 p6 p7 hil
   go_wp2
   go_meet
   refine ⟨_,HP.out _ ?_⟩
   first|(left;with_reducible rfl)|(right;with_reducible rfl)
 case rest=>
  obtain ⟨v',c4',hVX,hkX,hnX,hcX⟩:=hcut
  have x8:=(hkX.block (w.heap.size+1) (by omega) (fun e=>HMB.out _ e rfl)).trans HM8.out
  have x9:=(hkX.block w1.heap.size hlt9 (fun e=>HMC.out _ e rfl)).trans HM9.out
  have u0:=zae x9 0 rfl
  have u1:=zae x9 1 rfl
  have t0:=zae x8 0 rfl
  have t1:=zae x8 1 rfl
  have f0:=unfrozen x8 0
  have f1:=unfrozen x8 1
  have hlX:w.heap.size+1 < wc.heap.size:=by have:=hkX.size;omega
  have HX8:=Lib.hid x8
  have HVX:=Lib.hid hVX
  clear k0 k1 k2 k3 k4 k5 k6 k7 kp p0 p1 p2 p3 p4 p5 p6 p7 hil q0 q1 hVX x8 x9
  go_wp2
  have e0:=heap_setCell_same wc _ 0 _ _ (.string (tname ts.length)) HX8.out
  have e1:=heap_setCell_same _ _ 1 _ _ (.bool list) e0
  (try simp only [Exit.inBlock,Exit.then])
  refine bodyPost_ret (results_cell_row (P:=Tryz.prog) rfl _ _ (w.heap.size+1) _ _ _ _ rfl e1 Tryz.underlying97 rfl (by kernel_rfl)) rfl ?_
  have hMX:∀ k,Mut bo bm pb tv1 v' k→k≠w.heap.size+1:=fun k hm e=>by
   rcases Mut.new hm (NewOr.refl W tv1) hnX with e'|e'
   · exact HMB.out k e' e
   · omega
  have hAX:∀ k,A k→¬ k=w.heap.size+1:=fun k a e=>by have:=H.out.alt k a;omega
  refine ⟨rfl,A,tv1,v',c4',(HVX.out.keeps (zaf wc (w.heap.size+1) 0 _) hAX hMX).keeps (zaf _ (w.heap.size+1) 1 _) hAX hMX,?_,fun _ a=>a,fun _ a=>.inl a,?_,?_,hcX⟩
  · refine ((hKW.trans hkX (fun k e=>?_)).trans (zaf wc (w.heap.size+1) 0 _) (fun k e=>.inr (by omega))).trans (zaf _ (w.heap.size+1) 1 _) (fun k e=>.inr (by omega))
    rcases Mut.new e hn1 (NewOr.refl _ _) with e'|e'
    · exact .inl e'
    · exact .inr (by omega)
  · intro k e
    rcases hn1 k e with e|e
    · exact .inl e
    · exact .inr (by omega)
  · intro k e
    rcases hnX k e with e|e
    · exact .inl e
    · exact .inr (by omega)
end Go.Proofs.YtpobmoegmdhbpaaGreatDoor
/- The visitor of package anf:steps of its state,and the blocks of a call's own beside it. -/
namespace Go.Proofs.YtpobmoegmdhbpaaGreatDoor
open Go.RowKit
structure VC where
 bV:Nat
 bo:Nat
 bm:Nat
 c0:Value
 c1:Value
 c2:Value
 c5:Value
 lv:Value
 lib:List Fn
def St (C:VC) (pb po:Nat) (A:Nat→Prop) (w:World) (tv bv c4:Value) (ts:List Par) (bs:List Bd) (env:Env) (N:Nat):Prop:=
 VSt A w C.bV C.bo C.bm pb po N C.c0 C.c1 C.c2 c4 C.c5 tv bv C.lv C.lib ts bs env
def Mu (C:VC) (pb:Nat) (tv bv:Value) (k:Nat):Prop:=Mut C.bo C.bm pb tv bv k
structure Step (C:VC) (pb:Nat) (A:Nat→Prop) (w:World) (tv bv c4:Value) (A':Nat→Prop) (w':World) (tv' bv' c4':Value):Prop where
 keeps:Keeps w w' (Mu C pb tv bv)
 up:∀ k,A k→A' k
 new:∀ k,A' k→A k∨w.heap.size≤k
 ntv:NewOr w tv tv'
 nbv:NewOr w bv bv'
 hc4:pb≠C.bo→c4'=c4
theorem Step.refl (C:VC) (pb:Nat) (A:Nat→Prop) (w:World) (tv bv c4:Value):Step C pb A w tv bv c4 A w tv bv c4:=
 ⟨Keeps.refl _ _,fun _ a=>a,fun _ a=>.inl a,NewOr.refl _ _,NewOr.refl _ _,fun _=>rfl⟩
theorem Step.trans {C:VC} {pb:Nat} {A A1 A2:Nat→Prop} {w w1 w2:World} {tv bv c4 tv1 bv1 c41 tv2 bv2 c42:Value} (h:Step C pb A w tv bv c4 A1 w1 tv1 bv1 c41) (h':Step C pb A1 w1 tv1 bv1 c41 A2 w2 tv2 bv2 c42):Step C pb A w tv bv c4 A2 w2 tv2 bv2 c42 where
 keeps:=h.keeps.trans h'.keeps (fun k e=>Mut.new e h.ntv h.nbv)
 up:=fun k a=>h'.up k (h.up k a)
 new:=fun k a=>by
  rcases h'.new k a with a|a
  · exact h.new k a
  · exact .inr (Nat.le_trans h.keeps.size a)
 ntv:=h.ntv.trans h'.ntv h.keeps.size
 nbv:=h.nbv.trans h'.nbv h.keeps.size
 hc4:=fun e=>(h'.hc4 e).trans (h.hc4 e)
theorem Step.young {C:VC} {pb:Nat} {A A1:Nat→Prop} {w w1 w2:World} {tv bv c4 tv1 bv1 c41:Value} {S:Nat→Prop} (h:Step C pb A w tv bv c4 A1 w1 tv1 bv1 c41) (hk:Keeps w1 w2 S) (hS:∀ k,S k→w.heap.size≤k):Step C pb A w tv bv c4 A1 w2 tv1 bv1 c41:=
 ⟨h.keeps.trans hk (fun k e=>.inr (hS k e)),h.up,h.new,h.ntv,h.nbv,h.hc4⟩
theorem Step.below {C:VC} {pb:Nat} {A A1:Nat→Prop} {w w1 w2:World} {tv bv c4 tv1 bv1 c41:Value} (h:Step C pb A w tv bv c4 A1 w1 tv1 bv1 c41) (hb:Below w1.heap.size w1 w2):Step C pb A w tv bv c4 A1 w2 tv1 bv1 c41:=
 h.young (Keeps.of_below (fun _=>False) hb) (fun _ e=>e.elim)
theorem Step.size {C:VC} {pb:Nat} {A A1:Nat→Prop} {w w1:World} {tv bv c4 tv1 bv1 c41:Value} (h:Step C pb A w tv bv c4 A1 w1 tv1 bv1 c41):w.heap.size≤w1.heap.size:=h.keeps.size
theorem Step.more {C:VC} {pb:Nat} {A A1 A2:Nat→Prop} {w w1:World} {tv bv c4 tv1 bv1 c41:Value} (h:Step C pb A w tv bv c4 A1 w1 tv1 bv1 c41) (h1:∀ k,A1 k→A2 k) (h2:∀ k,A2 k→A1 k∨w.heap.size≤k):Step C pb A w tv bv c4 A2 w1 tv1 bv1 c41:=
 ⟨h.keeps,fun k a=>h1 k (h.up k a),fun k a=>by
   rcases h2 k a with a|a
   · exact h.new k a
   · exact .inr a,h.ntv,h.nbv,h.hc4⟩
theorem St.young {C:VC} {pb po N:Nat} {A:Nat→Prop} {w w':World} {tv bv c4:Value} {ts:List Par} {bs:List Bd} {env:Env} {S:Nat→Prop} (h:St C pb po A w tv bv c4 ts bs env N) (hk:Keeps w w' S) (hA:∀ k,A k→¬ S k) (hM:∀ k,Mu C pb tv bv k→¬ S k):St C pb po A w' tv bv c4 ts bs env N:=VSt.keeps h hk hA hM
theorem St.below {C:VC} {pb po N:Nat} {A:Nat→Prop} {w w':World} {tv bv c4:Value} {ts:List Par} {bs:List Bd} {env:Env} (h:St C pb po A w tv bv c4 ts bs env N) (hb:Below w.heap.size w w'):St C pb po A w' tv bv c4 ts bs env N:=VSt.below h hb
theorem St.mono {C:VC} {pb po N N':Nat} {A:Nat→Prop} {w:World} {tv bv c4:Value} {ts:List Par} {bs:List Bd} {env:Env} (h:St C pb po A w tv bv c4 ts bs env N) (hN:N≤N'):St C pb po A w tv bv c4 ts bs env N':=
 { h with map:=h.map.mono hN }
theorem St.more {C:VC} {pb po N:Nat} {A A':Nat→Prop} {w:World} {tv bv c4:Value} {ts:List Par} {bs:List Bd} {env:Env} (h:St C pb po A w tv bv c4 ts bs env N) (h1:∀ k,A k→A' k) (h2:∀ k,A' k→A k∨k < w.heap.size∧¬ Mu C pb tv bv k):St C pb po A' w tv bv c4 ts bs env N:=
 have hst:Stays A A' w w:=⟨Nat.le_refl _,fun b _ a=>⟨rfl,h1 b a⟩⟩
 { h with
   lib:=VSt.lib h |>.stays hst
   row:=VSt.row h |>.mono h1
   tabA:=fun g e=>h1 g (VSt.tabA h g e)
   visA:=h1 _ (VSt.visA h)
   alt:=fun k a=>by
    rcases h2 k a with a|a
    · exact VSt.alt h k a
    · exact a.1
   mutA:=fun k m a=>by
    rcases h2 k a with a|a
    · exact VSt.mutA h k m a
    · exact a.2 m }
theorem St.alt {C:VC} {pb po N:Nat} {A:Nat→Prop} {w:World} {tv bv c4:Value} {ts:List Par} {bs:List Bd} {env:Env} (h:St C pb po A w tv bv c4 ts bs env N) {k:Nat} (a:A k):k < w.heap.size:=VSt.alt h k a
theorem St.mlt {C:VC} {pb po N:Nat} {A:Nat→Prop} {w:World} {tv bv c4:Value} {ts:List Par} {bs:List Bd} {env:Env} (h:St C pb po A w tv bv c4 ts bs env N) {k:Nat} (a:Mu C pb tv bv k):k < w.heap.size:=VSt.mutlt h k a
theorem St.stays {C:VC} {pb po N:Nat} {A A':Nat→Prop} {w w':World} {tv bv c4 tv' bv' c4':Value} {ts:List Par} {bs:List Bd} {env:Env} (h:St C pb po A w tv bv c4 ts bs env N) (hs:Step C pb A w tv bv c4 A' w' tv' bv' c4'):Stays A A' w w':=
 ⟨hs.keeps.size,fun b hb a=>⟨hs.keeps.block b hb (fun m=>VSt.mutA h b m a),hs.up b a⟩⟩
def Locs (C:VC) (pb:Nat) (A:Nat→Prop) (tv bv:Value) (w:World) (L:List (Nat × Obj)):Prop:=∀ p ∈ L,w.heap[p.1]?=some p.2∧¬ A p.1∧¬ Mu C pb tv bv p.1
theorem Locs.lt {C:VC} {pb:Nat} {A:Nat→Prop} {tv bv:Value} {w:World} {L:List (Nat × Obj)} (h:Locs C pb A tv bv w L) {p:Nat × Obj} (hp:p ∈ L):p.1 < w.heap.size:=by
 have:=(h p hp).1
 rw [Array.getElem?_eq_some_iff] at this;exact this.1
theorem Locs.nil {C:VC} {pb:Nat} {A:Nat→Prop} {tv bv:Value} {w:World}:Locs C pb A tv bv w []:=fun p h=>by simp at h
theorem Locs.step {C:VC} {pb:Nat} {A A':Nat→Prop} {w w':World} {tv bv c4 tv' bv' c4':Value} {L:List (Nat × Obj)} (h:Locs C pb A tv bv w L) (hs:Step C pb A w tv bv c4 A' w' tv' bv' c4'):Locs C pb A' tv' bv' w' L:=fun p hp=>by
 have hlt:=h.lt hp
 obtain ⟨h1,h2,h3⟩:=h p hp
 refine ⟨(hs.keeps.block _ hlt h3).trans h1,fun a=>?_,fun m=>?_⟩
 · rcases hs.new _ a with a|a
   · exact h2 a
   · omega
 · rcases Mut.new m hs.ntv hs.nbv with a|a
   · exact h3 a
   · omega
theorem Locs.keeps {C:VC} {pb:Nat} {A:Nat→Prop} {w w':World} {tv bv:Value} {L:List (Nat × Obj)} {S:Nat→Prop} (h:Locs C pb A tv bv w L) (hk:Keeps w w' S) (hS:∀ p ∈ L,¬ S p.1):Locs C pb A tv bv w' L:=fun p hp=>by
 obtain ⟨h1,h2,h3⟩:=h p hp
 exact ⟨(hk.block _ (h.lt hp) (hS p hp)).trans h1,h2,h3⟩
theorem Locs.below {C:VC} {pb:Nat} {A:Nat→Prop} {w w':World} {tv bv:Value} {L:List (Nat × Obj)} (h:Locs C pb A tv bv w L) (hb:Below w.heap.size w w'):Locs C pb A tv bv w' L:=h.keeps (Keeps.of_below (fun _=>False) hb) (fun _ _ e=>e)
theorem Locs.sub {C:VC} {pb:Nat} {A:Nat→Prop} {w:World} {tv bv:Value} {L L':List (Nat × Obj)} (h:Locs C pb A tv bv w L) (hs:∀ p ∈ L',p ∈ L):Locs C pb A tv bv w L':=fun p hp=>h p (hs p hp)
theorem Locs.alloc {C:VC} {pb po N:Nat} {A:Nat→Prop} {w:World} {tv bv c4:Value} {ts:List Par} {bs:List Bd} {env:Env} {L:List (Nat × Obj)} (h:Locs C pb A tv bv w L) (hst:St C pb po A w tv bv c4 ts bs env N) (o:Obj):Locs C pb A tv bv (w.alloc o) ((w.heap.size,o) :: L):=fun p hp=>by
 rcases List.mem_cons.1 hp with rfl|hp
 · exact ⟨heap_alloc_new w o,fun a=>Nat.lt_irrefl _ (hst.alt a),fun m=>Nat.lt_irrefl _ (hst.mlt m)⟩
 · exact (h.below ((Below.refl _ _).alloc (Nat.le_refl _) _)) p hp
theorem Locs.set {C:VC} {pb:Nat} {A:Nat→Prop} {w:World} {tv bv:Value} {L:List (Nat × Obj)} {g e:Nat} {arr:Array Value} (h:Locs C pb A tv bv w ((g,.cells arr e (0,0)) :: L)) (j:Nat) (x:Value) (hg:∀ p ∈ L,p.1≠g):Locs C pb A tv bv (w.setCell ⟨g,j,none⟩ x) ((g,.cells (arr.setIfInBounds j x) e (0,0)) :: L):=fun p hp=>by
 rcases List.mem_cons.1 hp with rfl|hp
 · obtain ⟨h1,h2,h3⟩:=h _ (List.mem_cons_self ..)
   exact ⟨heap_setCell_same w g j arr e x h1,h2,h3⟩
 · exact ((h.sub (fun p hp=>List.mem_cons_of_mem _ hp)).keeps (zaf w g j x) hg) p hp
theorem Locs.blk {C:VC} {pb:Nat} {A:Nat→Prop} {w:World} {tv bv:Value} {L:List (Nat × Obj)} (h:Locs C pb A tv bv w L) {g:Nat} {o:Obj} (hm:(g,o) ∈ L):w.heap[g]?=some o:=(h _ hm).1
theorem St.setLoc {C:VC} {pb po N:Nat} {A:Nat→Prop} {w:World} {tv bv c4:Value} {ts:List Par} {bs:List Bd} {env:Env} {L:List (Nat × Obj)} (h:St C pb po A w tv bv c4 ts bs env N) (hl:Locs C pb A tv bv w L) {g:Nat} {o:Obj} (hm:(g,o) ∈ L) (j:Nat) (x:Value):St C pb po A (w.setCell ⟨g,j,none⟩ x) tv bv c4 ts bs env N:=
 h.young (zaf w g j x) (fun k a e=>(hl _ hm).2.1 (by rw [show g=k from (e:k=g).symm];exact a)) (fun k m e=>(hl _ hm).2.2 (by rw [show g=k from (e:k=g).symm];exact m))
theorem St.put {C:VC} {pb po N N':Nat} {A:Nat→Prop} {w w':World} {tv bv c4:Value} {ts:List Par} {bs:List Bd} {env env':Env} (h:St C pb po A w tv bv c4 ts bs env N) (hm:SMapLe Tryz.prog 9 w' C.bm (fun s=>(env' s).map parV) N') (hg:w.grownBy w' (some C.bm)):
 St C pb po A w' tv bv c4 ts bs env' N'∧Step C pb A w tv bv c4 A w' tv bv c4:=by
 have hk:Keeps w w' (fun k=>k=C.bm):=Keeps.of_grown hg (fun k e=>.inl (by simpa using e.symm))
 have hA:∀ k,A k→¬ k=C.bm:=fun k a e=>VSt.mutA h k (.inr (.inl e)) a
 have hlt:=VSt.mutlt h
 refine ⟨?_,⟨hk.mono (fun k e=>.inr (.inl e)),fun _ a=>a,fun _ a=>.inl a,NewOr.refl _ _,NewOr.refl _ _,fun _=>rfl⟩⟩
 exact {
  out:=(VSt.out h).keeps hk (VSt.bobm h) (fun k e e2=>VSt.tvbm h (e2 ▸ e))
  vis:=(VSt.vis h).keeps hk (hA _ (VSt.visA h))
  lib:=(VSt.lib h).stays (hk.stays fun k a _=>hA k a)
  map:=hm
  ptr:=(VSt.ptr h).keeps hk (VSt.pbbm h)
  row:=(VSt.row h).keeps hk hA (fun k e e2=>VSt.bvbm h (e2 ▸ e))
  tab:=(VSt.tab h).stays hk (fun g e=>hA g (VSt.tabA h g e))
  tabA:=VSt.tabA h
  visA:=VSt.visA h
  alt:=fun k a=>Nat.lt_of_lt_of_le (VSt.alt h k a) hk.size
  mutA:=VSt.mutA h
  bobm:=VSt.bobm h
  pbbm:=VSt.pbbm h
  tvbm:=VSt.tvbm h
  tvpb:=VSt.tvpb h
  bvbo:=VSt.bvbo h
  bvbm:=VSt.bvbm h
  bvpb:=VSt.bvpb h
  sep:=VSt.sep h }
theorem zkk (env:Env) (s:ByteArray) (p:Par):∀ y,(fun y=>if y=s then some (parV p) else (env y).map parV) y=(fun y=>((env.put s p) y).map parV) y:=by
 intro y
 simp only [Env.put]
 split <;> rfl
theorem zny (env:Env) (s:ByteArray):∀ y,(fun y=>if y=s then none else (env y).map parV) y=(fun y=>((env.cut s) y).map parV) y:=by
 intro y
 simp only [Env.cut]
 split <;> rfl
def XPost (C:VC) (pb po:Nat) (A:Nat→Prop) (w:World) (tv bv c4:Value) (bs:List Bd) (N:Nat) (X:XR) (e:Ending) (w':World):Prop:=
 e=.returned (.agg #[.string X.par.name,.bool X.par.list])∧∃ A' tv' bv' c4',St C pb po A' w' tv' bv' c4' X.ts (bs ++ X.bs) X.env N∧Step C pb A w tv bv c4 A' w' tv' bv' c4'
def SmallE (env:Env):Prop:=∀ s p,env s=some p→p.name.size≤maxLen
theorem SmallE.put {env:Env} (h:SmallE env) (s:ByteArray) {p:Par} (hp:p.name.size≤maxLen):SmallE (env.put s p):=fun y q e=>by
 simp only [Env.put] at e
 split at e
 · simp only [Option.some.injEq] at e;subst e;exact hp
 · exact h y q e
theorem SmallE.cut {env:Env} (h:SmallE env) (s:ByteArray):SmallE (env.cut s):=fun y q e=>by
 simp only [Env.cut] at e
 split at e
 · simp at e
 · exact h y q e
theorem SmallE.get {env:Env} (h:SmallE env) (s:ByteArray):((env s).getD default).name.size≤maxLen:=by
 cases e:env s with
 | none=>exact Nat.zero_le _
 | some p=>exact h s p e
theorem zba {n:Nat} (h:n≤400000):(tname n).size≤maxLen:=by have:=ziH n;unfold maxLen;omega
def TsSmall (ts:List Par):Prop:=∀ j,(at' ts j).name.size≤maxLen
theorem TsSmall.snoc {ts:List Par} (h:TsSmall ts) {p:Par} (hp:p.name.size≤maxLen):TsSmall (ts ++ [p]):=fun j=>by
 rcases Nat.lt_trichotomy j ts.length with hj|rfl|hj
 · have:at' (ts ++ [p]) j=at' ts j:=by simp [at',List.getD_eq_getElem?_getD,List.getElem?_append_left hj]
   rw [this];exact h j
 · have:at' (ts ++ [p]) ts.length=p:=by simp [at']
   rw [this];exact hp
 · have:at' (ts ++ [p]) j=default:=by simp only [at',List.getD_eq_getElem?_getD];rw [List.getElem?_eq_none (by simp;omega)];rfl
   rw [this];exact Nat.zero_le _
theorem TsSmall.ty {ts:List Par} (h:TsSmall ts) (i:Nat) (b:Bool):TsSmall (setTy ts i b):=fun j=>by
 by_cases e:i=j
 · subst e
   by_cases hi:i < ts.length
   · have:at' (setTy ts i b) i=⟨(at' ts i).name,b⟩:=by simp [setTy,at',List.getD_eq_getElem?_getD,hi]
     rw [this];exact h i
   · have:at' (setTy ts i b) i=default:=by simp only [at',setTy,List.getD_eq_getElem?_getD];rw [List.getElem?_eq_none (by simp;omega)];rfl
     rw [this];exact Nat.zero_le _
 · have:at' (setTy ts i b) j=at' ts j:=by simp [setTy,at',List.getD_eq_getElem?_getD,e]
   rw [this];exact h j
mutual
theorem zaA (lib:List Fn):∀ (n:Nd) (env:Env) (ts:List Par),SmallE env→TsSmall ts→ts.length+2 * sizeN n≤400000→
 (exprN lib n env ts).par.name.size≤maxLen∧SmallE (exprN lib n env ts).env∧TsSmall (exprN lib n env ts).ts
 | .mk k num name kids,env,ts,he,ht,hl=>by
   rw [sizeN] at hl
   unfold exprN
   split
   · exact ⟨he.get name,he,ht⟩
   · split
     · split
       · rename_i a b
         simp only [sizeL] at hl
         have la:=zap lib a env ts
         have ha:=zaA lib a env ts he ht (by omega)
         have hb:=zaA lib b _ _ (ha.2.1.put name ha.1) ha.2.2 (by omega)
         exact ⟨hb.1,hb.2.1.cut name,hb.2.2⟩
       · exact ⟨Nat.zero_le _,he,ht⟩
     · split
       · split
         · rename_i c a b
           simp only [sizeL] at hl
           have lc:=zap lib c env ts
           have hc:=zaA lib c env ts he ht (by omega)
           have la:=zap lib a (exprN lib c env ts).env ((exprN lib c env ts).ts ++ [⟨tname (exprN lib c env ts).ts.length,false⟩])
           simp only [List.length_append,List.length_singleton] at la
           have ha:=zaA lib a (exprN lib c env ts).env ((exprN lib c env ts).ts ++ [⟨tname (exprN lib c env ts).ts.length,false⟩]) hc.2.1 (hc.2.2.snoc (zba (by omega))) (by simp only [List.length_append,List.length_singleton];omega)
           have hb:=zaA lib b _ _ ha.2.1 (ha.2.2.ty (exprN lib c env ts).ts.length (exprN lib a (exprN lib c env ts).env ((exprN lib c env ts).ts ++ [⟨tname (exprN lib c env ts).ts.length,false⟩])).par.list) (by rw [zat];omega)
           exact ⟨hb.2.2.ty _ _ _,hb.2.1,hb.2.2.ty _ _⟩
         · exact ⟨Nat.zero_le _,he,ht⟩
       · have h:=zby lib (decide (k=85)) kids env ts
         have hs:=zbT lib (decide (k=85)) kids env ts he ht (by omega)
         exact ⟨zba (by omega),hs.1,hs.2.1.snoc (zba (by omega))⟩
theorem zbT (lib:List Fn) (call:Bool):∀ (l:List Nd) (env:Env) (ts:List Par),SmallE env→TsSmall ts→ts.length+2 * sizeL l≤400000→
 SmallE (argsN lib call l env ts).env∧TsSmall (argsN lib call l env ts).ts∧∀ s ∈ (argsN lib call l env ts).args,s.size≤maxLen
 | [],env,ts,he,ht,hl=>by rw [argsN];exact ⟨he,ht,by simp⟩
 | n :: r,env,ts,he,ht,hl=>by
   rw [sizeL] at hl
   rw [argsN]
   have hn:=zap lib n env ts
   have hs:=zaA lib n env ts he ht (by omega)
   split
   · have hr:=zbT lib call r _ _ hs.2.1 (hs.2.2.snoc (p:=⟨tname (exprN lib n env ts).ts.length,(exprN lib n env ts).par.list⟩) (zba (by omega))) (by simp only [List.length_append,List.length_singleton];omega)
     refine ⟨hr.1,hr.2.1,fun s h=>?_⟩
     rcases List.mem_cons.1 h with rfl|h
     · exact zba (by omega)
     · exact hr.2.2 s h
   · have hr:=zbT lib call r _ _ hs.2.1 hs.2.2 (by omega)
     refine ⟨hr.1,hr.2.1,fun s h=>?_⟩
     rcases List.mem_cons.1 h with rfl|h
     · exact hs.1
     · exact hr.2.2 s h
end
end Go.Proofs.YtpobmoegmdhbpaaGreatDoor
/- The visitor of package anf:expr at a variable and at a let. -/
namespace Go.Proofs.YtpobmoegmdhbpaaGreatDoor
open Go.RowKit
theorem MP:SmapT Tryz.prog 171 9 97 (.agg #[.string ByteArray.empty,.bool false]):=⟨Tryz.underlying171,Tryz.underlying9,fun _=>by kernel_rfl⟩
mutual
def knownN (lib:List Fn):Nd→Bool
 | .mk k num name kids=>(!decide (k=85) || decide (0≤findF lib name)) && knownL lib kids
def knownL (lib:List Fn):List Nd→Bool
 | []=>true
 | n :: r=>knownN lib n && knownL lib r
end
theorem zfv (lib:List Fn):∀ l:List Nd,knownL lib l=true ↔ ∀ j,j < l.length→knownN lib (at' l j)=true
 | []=>by simp [knownL]
 | n :: r=>by
   rw [knownL,Bool.and_eq_true,zfv lib r]
   constructor
   · rintro ⟨h1,h2⟩ j hj
     match j with
     | 0=>exact h1
     | j+1=>exact h2 j (by simpa using hj)
   · intro h
     exact ⟨h 0 (by simp),fun j hj=>h (j+1) (by simpa using hj)⟩
theorem zbG {lib:List Fn} {n:Nd} (h:knownN lib n=true) {j:Nat} (hj:j < n.kids.length):knownN lib (at' n.kids j)=true:=by
 cases n with
 | mk k num name kids=>
   rw [knownN,Bool.and_eq_true] at h
   exact (zfv lib _).1 h.2 j hj
theorem zjF {lib:List Fn} {n:Nd} (h:knownN lib n=true) (hk:n.kind=85):0≤findF lib n.name:=by
 cases n with
 | mk k num name kids=>
   rw [knownN,Bool.and_eq_true] at h
   have:=h.1
   simp only [Nd.kind] at hk
   simpa [hk,Nd.name] using this
def XOk (m:Nat):Prop:=∀ (C:VC) (n:Nd) (v:Value) (pb po:Nat) (A:Nat→Prop) (w:World) (tv bv c4:Value) (ts:List Par) (bs:List Bd) (env:Env) (N:Nat),sizeN n≤m→formedN n=true→knownN C.lib n=true→NdAt A w v n→St C pb po A w tv bv c4 ts bs env N→
    SmallE env→TsSmall ts→ts.length+2 * sizeN n≤100000→bs.length+2 * sizeN n≤100000→N+2 * sizeN n≤100000→
    Calls Tryz.prog 105 #[.pointer (some ⟨C.bV,0,none⟩),v,.pointer (some ⟨pb,po,none⟩)] w (XPost C pb po A w tv bv c4 bs (N+2 * sizeN n) (exprN C.lib n env ts))
theorem zhx (lib:List Fn) (n:Nd) (env:Env) (ts:List Par) (h:n.kind=81):exprN lib n env ts=⟨ts,[],(env n.name).getD default,env⟩:=by
 cases n with
 | mk k num name kids=>simp only [Nd.kind] at h;unfold exprN;rw [if_pos h];rfl
theorem kids2 {l:List Nd} (h:l.length=2):l=[at' l 0,at' l 1]:=by
 match l,h with
 | [a,b],_=>rfl
theorem kids3 {l:List Nd} (h:l.length=3):l=[at' l 0,at' l 1,at' l 2]:=by
 match l,h with
 | [a,b,c],_=>rfl
theorem zhG (lib:List Fn) (n:Nd) (env:Env) (ts:List Par) (h:n.kind=84) (hk:n.kids.length=2):
 exprN lib n env ts=⟨(exprN lib (at' n.kids 1) ((exprN lib (at' n.kids 0) env ts).env.put n.name (exprN lib (at' n.kids 0) env ts).par) (exprN lib (at' n.kids 0) env ts).ts).ts,
  (exprN lib (at' n.kids 0) env ts).bs ++ (exprN lib (at' n.kids 1) ((exprN lib (at' n.kids 0) env ts).env.put n.name (exprN lib (at' n.kids 0) env ts).par) (exprN lib (at' n.kids 0) env ts).ts).bs,
  (exprN lib (at' n.kids 1) ((exprN lib (at' n.kids 0) env ts).env.put n.name (exprN lib (at' n.kids 0) env ts).par) (exprN lib (at' n.kids 0) env ts).ts).par,
  (exprN lib (at' n.kids 1) ((exprN lib (at' n.kids 0) env ts).env.put n.name (exprN lib (at' n.kids 0) env ts).par) (exprN lib (at' n.kids 0) env ts).ts).env.cut n.name⟩:=by
 cases n with
 | mk k num name kids=>
   simp only [Nd.kind] at h
   simp only [Nd.kids] at hk ⊢
   match kids,hk with
   | [a,b],_=>conv=>lhs;unfold exprN
              rw [if_neg (by omega),if_pos h];rfl
theorem Locs.two {C:VC} {pb po N:Nat} {A:Nat→Prop} {w:World} {tv bv c4:Value} {ts:List Par} {bs:List Bd} {env:Env} (hst:St C pb po A w tv bv c4 ts bs env N) (a b:Obj):Locs C pb A tv bv ((w.alloc a).alloc b) [(w.heap.size+1,b),(w.heap.size,a)]:=by
 have:=(Locs.nil.alloc hst a).alloc (hst.below ((Below.refl _ _).alloc (Nat.le_refl _) _)) b
 simpa using this
theorem zkH (env:Env) (s:ByteArray):(if false then Value.tuple #[((env s).map parV).getD (.agg #[.string ByteArray.empty,.bool false]),.bool ((env s).map parV).isSome] else ((env s).map parV).getD (.agg #[.string ByteArray.empty,.bool false]))=.agg #[.string ((env s).getD default).name,.bool ((env s).getD default).list]:=by
 cases env s <;> rfl
theorem zmq (C:VC) (n:Nd) (v:Value) (pb po:Nat) (A:Nat→Prop) (w:World) (tv bv c4:Value) (ts:List Par) (bs:List Bd) (env:Env) (N:Nat) (h81:n.kind=81) (hv:NdAt A w v n) (hst:St C pb po A w tv bv c4 ts bs env N):
 Calls Tryz.prog 105 #[.pointer (some ⟨C.bV,0,none⟩),v,.pointer (some ⟨pb,po,none⟩)] w (XPost C pb po A w tv bv c4 bs (N+2 * sizeN n) (exprN C.lib n env ts)):=by
 obtain ⟨hok,hlen,ka,kc,rfl,hk⟩:=hv.open
 have HEQ:=Lib.hid (zhx C.lib n env ts h81)
 have d81:(n.kind == 81)=true:=by simpa using h81
 have hs:=hok.2.2
 have HL:=Lib.hid (Locs.two hst (.cells #[.int .u8 n.kind,.int .i64 n.num,.string n.name,.slice ka n.kids.length kc] 34) (.cells #[.string ⟨#[]⟩,.bool false] 97))
 have hA:Below w.heap.size w ((w.alloc (.cells #[.int .u8 n.kind,.int .i64 n.num,.string n.name,.slice ka n.kids.length kc] 34)).alloc (.cells #[.string ⟨#[]⟩,.bool false] 97)):=((Below.refl _ _).alloc (Nat.le_refl _) _).alloc (by simp) _
 have hS0:=hst.below hA
 have v1:=zae (VSt.vis hS0) 1 rfl
 have q2:=zae (HL.out.blk (g:=w.heap.size) (List.mem_cons_of_mem _ (List.mem_cons_self ..))) 2 rfl
 have HST:=Lib.hid hst
 have HS0:=Lib.hid hS0
 clear h81 hst hS0
 go_enter Tryz.func105,Tryz.ntmps105
 go_wp2
 generalize ((w.alloc (.cells #[.int .u8 n.kind,.int .i64 n.num,.string n.name,.slice ka n.kids.length kc] 34)).alloc (.cells #[.string ⟨#[]⟩,.bool false] 97))=W at *
 have hD:Below W.heap.size W W.drew:=zal (Below.refl _ _) 1
 have HM:=Lib.hid (VSt.map (HS0.out.below hD))
 have hR:=HL.out.blk (List.mem_cons_self ..)
 have r0:W.cell? ⟨w.heap.size+1,0,none⟩=some (.string ⟨#[]⟩):=zae hR 0 rfl
 have r1:W.cell? ⟨w.heap.size+1,1,none⟩=some (.bool false):=zae hR 1 rfl
 have f0:=unfrozen hR 0
 have f1:=unfrozen hR 1
 clear hR
 go_still_tail 6,(by kernel_rfl)
 change wpList _ _ _ _ _ W.drew
 have HD:=Lib.hid hD
 clear hD
 go_wp2_with (refine zbJ MP rfl (.tmp 20) (.tmp 22) false rfl rfl rfl (by exact HM.out) hs (zkH env n.name) ?_)
 have hL2:=HL.out.below HD.out
 have hL3:=(hL2.set 0 (.string ((env n.name).getD default).name) (by simp)).set 1 (.bool ((env n.name).getD default).list) (by simp)
 have hS2:=((HS0.out.below HD.out).setLoc hL2 (List.mem_cons_self ..) 0 (.string ((env n.name).getD default).name)).setLoc (hL2.set 0 _ (by simp)) (List.mem_cons_self ..) 1 (.bool ((env n.name).getD default).list)
 (try simp only [Exit.inBlock,Exit.then])
 refine bodyPost_ret (results_cell_row (P:=Tryz.prog) rfl _ _ (w.heap.size+1) _ _ _ _ rfl (hL3.blk (List.mem_cons_self ..)) Tryz.underlying97 rfl (by kernel_rfl)) rfl ?_
 rw [HEQ.out]
 refine ⟨rfl,A,tv,bv,c4,?_,?_⟩
 · rw [List.append_nil];exact hS2.mono (by omega)
 · exact (((Step.refl C pb A w tv bv c4).below hA).below HD.out).young ((zaf _ (w.heap.size+1) 0 _).same (zaf _ (w.heap.size+1) 1 _)) (fun k e=>by omega)
theorem KidsAt.later {A A':Nat→Prop} {w w':World} {v:Value} {kids:List Nd} (h:KidsAt A w v kids) (hs:Stays A A' w w') {j:Nat} (hj:j < kids.length):
 ∃ b off cap ka kc,v=.slice (some ⟨b,off,none⟩) kids.length cap∧w'.cell? ⟨b,off+j * 4,none⟩=some (.int .u8 (at' kids j).kind)∧w'.cell? ⟨b,off+j * 4+1,none⟩=some (.int .i64 (at' kids j).num)∧
   w'.cell? ⟨b,off+j * 4+2,none⟩=some (.string (at' kids j).name)∧w'.cell? ⟨b,off+j * 4+3,none⟩=some (.slice ka (at' kids j).kids.length kc)∧NdAt A' w' (.agg #[.int .u8 (at' kids j).kind,.int .i64 (at' kids j).num,.string (at' kids j).name,.slice ka (at' kids j).kids.length kc]) (at' kids j):=by
 obtain ⟨b,off,cap,ka,kc,h1,_,_,_,h2,h3,h4,h5,h6⟩:=(h.stays hs).at hj
 exact ⟨b,off,cap,ka,kc,h1,h2,h3,h4,h5,h6⟩
theorem zmd (m:Nat) (ih:XOk m) (C:VC) (n:Nd) (v:Value) (pb po:Nat) (A:Nat→Prop) (w:World) (tv bv c4:Value) (ts:List Par) (bs:List Bd) (env:Env) (N:Nat) (h84:n.kind=84) (hm:sizeN n≤m+1) (hform:formedN n=true) (hkn:knownN C.lib n=true) (hv:NdAt A w v n) (hst:St C pb po A w tv bv c4 ts bs env N)
 (hse:SmallE env) (hts:TsSmall ts) (hl1:ts.length+2 * sizeN n≤100000) (hl2:bs.length+2 * sizeN n≤100000) (hl3:N+2 * sizeN n≤100000):
 Calls Tryz.prog 105 #[.pointer (some ⟨C.bV,0,none⟩),v,.pointer (some ⟨pb,po,none⟩)] w (XPost C pb po A w tv bv c4 bs (N+2 * sizeN n) (exprN C.lib n env ts)):=by
 obtain ⟨hok,hlen,ka,kc,rfl,hk⟩:=hv.open
 have hk2:=zbP hform h84
 have HEQ:=Lib.hid (zhG C.lib n env ts h84 hk2)
 have hsz:sizeN n=sizeN (at' n.kids 0)+sizeN (at' n.kids 1)+1:=by rw [zbd,kids2 hk2];simp [sizeL,at']
 have hx1:=zap C.lib (at' n.kids 0) env ts
 have hx2:=zaA C.lib (at' n.kids 0) env ts hse hts (by omega)
 have d81:(n.kind == 81)=false:=by simp [h84]
 have d84:(n.kind == 84)=true:=by simpa using h84
 have hs:=hok.2.2
 have i0:(0:Int) < (n.kids.length:Int):=by omega
 have i1:(1:Int) < (n.kids.length:Int):=by omega
 have HL:=Lib.hid (Locs.two hst (.cells #[.int .u8 n.kind,.int .i64 n.num,.string n.name,.slice ka n.kids.length kc] 34) (.cells #[.string ⟨#[]⟩,.bool false] 97))
 have hA:Below w.heap.size w ((w.alloc (.cells #[.int .u8 n.kind,.int .i64 n.num,.string n.name,.slice ka n.kids.length kc] 34)).alloc (.cells #[.string ⟨#[]⟩,.bool false] 97)):=((Below.refl _ _).alloc (Nat.le_refl _) _).alloc (by simp) _
 have hS0:=hst.below hA
 have hT0:=(Step.refl C pb A w tv bv c4).below hA
 obtain ⟨b,off,cap,ka0,kc0,he,q0,q1,q2,q3,hnd0⟩:=hk.later (hst.stays hT0) (j:=0) (by omega)
 simp only [Value.slice.injEq] at he
 obtain ⟨rfl,-,rfl⟩:=he
 simp only [Nat.zero_mul,Nat.add_zero] at q0 q1 q2 q3
 have HCX:=Lib.hid (ih C (at' n.kids 0) _ pb po A _ tv bv c4 ts bs env N (by omega) (zaz hform (by omega)) (zbG hkn (by omega)) hnd0 hS0 hse hts (by omega) (by omega) (by omega))
 have HST:=Lib.hid hst
 have HS0:=Lib.hid hS0
 have HK:=Lib.hid hk
 have HK2:=Lib.hid hk2
 have HF:=Lib.hid hform
 have HKN:=Lib.hid hkn
 have HSZ:=Lib.hid hsz
 clear hst hS0 h84 hk hform hkn hk2 hnd0 hsz
 go_enter Tryz.func105,Tryz.ntmps105
 go_wp2_with (go_at_call 105;refine HCX.out.mono ?_;rintro e w1 ⟨rfl,A1,tv1,bv1,c41,hS1,hT1⟩)
 clear q0 q1 q2 q3 HCX
 generalize exprN C.lib (at' n.kids 0) env ts=X at *
 have hT1':=hT0.trans hT1
 have hL1:=(HL.out.step hT1).alloc hS1 (.cells #[.string X.par.name,.bool X.par.list] 97)
 have hA1:Below w1.heap.size w1 (w1.alloc (.cells #[.string X.par.name,.bool X.par.list] 97)).drew:=zal ((Below.refl _ _).alloc (Nat.le_refl _) _) 1
 have hS2:=hS1.below hA1
 have hT2:=hT1'.below hA1
 have hL2:Locs C pb A1 tv1 bv1 (w1.alloc (.cells #[.string X.par.name,.bool X.par.list] 97)).drew _:=hL1.below (zal (Below.refl _ _) 1)
 have v1:(w1.alloc (.cells #[.string X.par.name,.bool X.par.list] 97)).cell? ⟨C.bV,1,none⟩=some (.map (some C.bm)):=zae (VSt.vis (hS1.below ((Below.refl _ _).alloc (Nat.le_refl _) _))) 1 rfl
 have q2:(w1.alloc (.cells #[.string X.par.name,.bool X.par.list] 97)).cell? ⟨w.heap.size,2,none⟩=some (.string n.name):=zae (hL1.blk (g:=w.heap.size) (List.mem_cons_of_mem _ (List.mem_cons_of_mem _ (List.mem_cons_self ..)))) 2 rfl
 have r0:(w1.alloc (.cells #[.string X.par.name,.bool X.par.list] 97)).cell? ⟨w1.heap.size,0,none⟩=some (.string X.par.name):=zae (hL1.blk (List.mem_cons_self ..)) 0 rfl
 have r1:(w1.alloc (.cells #[.string X.par.name,.bool X.par.list] 97)).cell? ⟨w1.heap.size,1,none⟩=some (.bool X.par.list):=zae (hL1.blk (List.mem_cons_self ..)) 1 rfl
 have HM:=Lib.hid (VSt.map hS2)
 have HS2:=Lib.hid hS2
 have HL2:=Lib.hid hL2
 clear hS2 hL1 hL2 hS1 hA1
 generalize (w1.alloc (.cells #[.string X.par.name,.bool X.par.list] 97))=W at *
 go_still_tail 7,(by kernel_rfl)
 change wpList _ _ _ _ _ W.drew
 go_wp2_with (refine zeJ MP rfl (.tmp 36) (.tmp 38) _ (.inr rfl) rfl rfl rfl (by exact HM.out) hs (by have:=HSZ.out;unfold maxLen;omega) ?_)
 intro w3 hm3 hg3
 obtain ⟨hS3,hT3⟩:=HS2.out.put (hm3.ext (zkk X.env n.name X.par)) hg3
 have hL3:=HL2.out.step hT3
 have hT3':=hT2.trans hT3
 clear hm3 hg3 v1 q2 r0 r1
 obtain ⟨b',off',cap',ka1,kc1,he,q0,q1,q2,q3,hnd1⟩:=HK.out.later (HST.out.stays hT3') (j:=1) (by have:=HK2.out;omega)
 simp only [Value.slice.injEq,Option.some.injEq,Addr.mk.injEq,and_true] at he
 obtain ⟨⟨rfl,rfl⟩,-,rfl⟩:=he
 simp only [Nat.one_mul] at q0 q1 q2 q3
 have p3:w3.cell? ⟨w.heap.size,3,none⟩=some (.slice (some ⟨b,off,none⟩) n.kids.length kc):=zae (hL3.blk (g:=w.heap.size) (List.mem_cons_of_mem _ (List.mem_cons_of_mem _ (List.mem_cons_self ..)))) 3 rfl
 have hsz:=HSZ.out
 have HCX:=Lib.hid (ih C (at' n.kids 1) _ pb po A1 _ tv1 bv1 c41 X.ts (bs ++ X.bs) (X.env.put n.name X.par) _ (by omega) (zaz HF.out (by have:=HK2.out;omega)) (zbG HKN.out (by have:=HK2.out;omega)) hnd1 hS3 (hx2.2.1.put n.name hx2.1) hx2.2.2 (by omega) (by rw [List.length_append];omega) (by omega))
 clear hnd1 hsz
 have HS3:=Lib.hid hS3
 have HL3:=Lib.hid hL3
 clear hS3 hL3
 go_wp2_with (go_at_call 105;refine HCX.out.mono ?_;rintro e w4 ⟨rfl,A4,tv4,bv4,c44,hS4,hT4⟩)
 clear q0 q1 q2 q3 HCX p3
 generalize exprN C.lib (at' n.kids 1) (X.env.put n.name X.par) X.ts=Y at *
 have hT4':=hT3'.trans hT4
 have hL4:=(HL3.out.step hT4).alloc hS4 (.cells #[.string Y.par.name,.bool Y.par.list] 97)
 have hA4:Below w4.heap.size w4 (w4.alloc (.cells #[.string Y.par.name,.bool Y.par.list] 97)).drew:=zal ((Below.refl _ _).alloc (Nat.le_refl _) _) 1
 have hS5:=hS4.below hA4
 have hT5:=hT4'.below hA4
 have hL5:Locs C pb A4 tv4 bv4 (w4.alloc (.cells #[.string Y.par.name,.bool Y.par.list] 97)).drew _:=hL4.below (zal (Below.refl _ _) 1)
 have v1:(w4.alloc (.cells #[.string Y.par.name,.bool Y.par.list] 97)).cell? ⟨C.bV,1,none⟩=some (.map (some C.bm)):=zae (VSt.vis (hS4.below ((Below.refl _ _).alloc (Nat.le_refl _) _))) 1 rfl
 have q2:(w4.alloc (.cells #[.string Y.par.name,.bool Y.par.list] 97)).cell? ⟨w.heap.size,2,none⟩=some (.string n.name):=zae (hL4.blk (g:=w.heap.size) (List.mem_cons_of_mem _ (List.mem_cons_of_mem _ (List.mem_cons_of_mem _ (List.mem_cons_self ..))))) 2 rfl
 have HM:=Lib.hid (VSt.map hS5)
 have HS5:=Lib.hid hS5
 have HL5:=Lib.hid hL5
 clear hS5 hL4 hL5 hS4 hA4
 generalize (w4.alloc (.cells #[.string Y.par.name,.bool Y.par.list] 97))=W5 at *
 go_still_tail 6,(by kernel_rfl)
 change wpList _ _ _ _ _ W5.drew
 go_wp2_with (refine ziG MP rfl (.tmp 50) (.tmp 52) rfl rfl rfl (by exact HM.out) hs ?_)
 intro w6 hm6 hg6
 obtain ⟨hS6,hT6⟩:=HS5.out.put (hm6.ext (zny Y.env n.name)) hg6
 have hL6:=(HL5.out.step hT6).sub (L':=[(w.heap.size+1,.cells #[.string ⟨#[]⟩,.bool false] 97),(w4.heap.size,.cells #[.string Y.par.name,.bool Y.par.list] 97)]) (by simp)
 have hT6':=hT5.trans hT6
 have hR:=hL6.blk (List.mem_cons_self ..)
 have r0:w6.cell? ⟨w.heap.size+1,0,none⟩=some (.string ⟨#[]⟩):=zae hR 0 rfl
 have r1:w6.cell? ⟨w.heap.size+1,1,none⟩=some (.bool false):=zae hR 1 rfl
 have f0:=unfrozen hR 0
 have f1:=unfrozen hR 1
 have hY:=hL6.blk (List.mem_cons_of_mem _ (List.mem_cons_self ..))
 have y0:w6.cell? ⟨w4.heap.size,0,none⟩=some (.string Y.par.name):=zae hY 0 rfl
 have y1:w6.cell? ⟨w4.heap.size,1,none⟩=some (.bool Y.par.list):=zae hY 1 rfl
 have hne:w.heap.size+1 < w4.heap.size:=by have:=(HL3.out.step hT4).lt (p:=(w.heap.size+1,.cells #[.string ⟨#[]⟩,.bool false] 97)) (by simp);exact this
 have HS6:=Lib.hid hS6
 have HL6:=Lib.hid hL6
 clear hm6 hg6 v1 q2 hR hY hS6 hL6
 go_wp2
 have hL7:=HL6.out.set 0 (.string Y.par.name) (by simp;omega)
 have hL8:=hL7.set 1 (.bool Y.par.list) (by simp;omega)
 have hS8:=(HS6.out.setLoc HL6.out (List.mem_cons_self ..) 0 (.string Y.par.name)).setLoc hL7 (List.mem_cons_self ..) 1 (.bool Y.par.list)
 (try simp only [Exit.inBlock,Exit.then])
 refine bodyPost_ret (results_cell_row (P:=Tryz.prog) rfl _ _ (w.heap.size+1) _ _ _ _ rfl (hL8.blk (List.mem_cons_self ..)) Tryz.underlying97 rfl (by kernel_rfl)) rfl ?_
 rw [HEQ.out]
 refine ⟨rfl,A4,tv4,bv4,c44,?_,?_⟩
 · rw [← List.append_assoc];exact hS8.mono (by have:=HSZ.out;omega)
 · exact hT6'.young ((zaf _ (w.heap.size+1) 0 _).same (zaf _ (w.heap.size+1) 1 _)) (fun k e=>by omega)
end Go.Proofs.YtpobmoegmdhbpaaGreatDoor
/- What a valid library says of its bodies:no program in sight. -/
namespace Go.Proofs.YtpobmoegmdhbpaaGreatDoor
mutual
theorem zeI (lib:List Fn):∀ (n:Nd) (vis:Vis),(checkN lib n vis).2=0→knownN lib n=true
 | .mk k num name kids,vis,h=>by
   rw [checkN] at h
   by_cases hr:reachE lib vis k name kids.length=0
   · rw [if_neg (by simpa using hr)] at h
     simp only [] at h
     by_cases hc:(checkL lib (decide (k=84)) name kids 0 [] vis).2=0
     · rw [knownN,Bool.and_eq_true]
       refine ⟨?_,zed lib (decide (k=84)) name kids 0 [] vis hc⟩
       by_cases h85:k=85
       · have:0≤findF lib name:=by
          unfold reachE at hr
          rw [if_neg (by omega),if_neg (by omega),if_pos h85] at hr
          rcases Int.lt_or_le (findF lib name) 0 with h0|h0
          · rw [if_pos h0] at hr;omega
          · exact h0
         simp [this]
       · simp [h85]
     · rw [if_pos hc] at h
       exact absurd h hc
   · rw [if_pos hr] at h
     exact absurd h hr
theorem zed (lib:List Fn) (b:Bool) (name:ByteArray):∀ (l:List Nd) (j:Nat) (types:List Bool) (vis:Vis),(checkL lib b name l j types vis).2=0→knownL lib l=true
 | [],_,_,_,_=>by rw [knownL]
 | n :: r,j,types,vis,h=>by
   rw [checkL] at h
   rw [knownL,Bool.and_eq_true]
   by_cases hc:(checkN lib n (if b∧j=1 then vis.put name (types.getD 0 false) else vis)).2=0
   · rw [if_neg (by simpa using hc)] at h
     exact ⟨zeI lib n _ hc,zed lib b name r (j+1) _ vis h⟩
   · rw [if_pos hc] at h
     exact absurd h hc
end
theorem zfs (lib:List Fn):∀ (n i:Nat),(validFrom lib n i).2=0→∀ j,i≤j→j < i+n→fnE lib j=0
 | 0,i,_,j,h1,h2=>by omega
 | n+1,i,h,j,h1,h2=>by
   rw [validFrom] at h
   by_cases he:fnE lib i=0
   · rw [if_neg (by simpa using he)] at h
     by_cases hj:j=i
     · subst hj;exact he
     · exact zfs lib n (i+1) h j (by omega) (by omega)
   · rw [if_pos he] at h
     exact absurd h he
structure FnOk (lib:List Fn) (i:Nat):Prop where
 lt:i < 30
 name:nameB (at' lib i).name=true
 first:¬ findF lib (at' lib i).name < i
 pars:parsE (at' lib i).params=0
 form:formedN (at' lib i).body=true
 depth:depthN (at' lib i).body≤80
 size:sizeN (at' lib i).body≤2000
 check:(checkN lib (at' lib i).body (parsV (at' lib i).params)).2=0
 list:(checkN lib (at' lib i).body (parsV (at' lib i).params)).1=(at' lib i).list
theorem zoF {lib:List Fn} {i:Nat} (h:fnE lib i=0):FnOk lib i:=by
 unfold fnE at h
 simp only [] at h
 by_cases h1:30≤i
 · rw [if_pos h1] at h;omega
 rw [if_neg h1] at h
 by_cases h2:(!nameB (at' lib i).name)=true
 · rw [if_pos h2] at h;omega
 rw [if_neg h2] at h
 by_cases h3:findF lib (at' lib i).name < i
 · rw [if_pos h3] at h;omega
 rw [if_neg h3] at h
 by_cases h4:¬ parsE (at' lib i).params=0
 · rw [if_pos h4] at h;exact absurd h h4
 rw [if_neg h4] at h
 have h4:=Classical.not_not.1 h4
 by_cases h5:(!formedN (at' lib i).body)=true
 · rw [if_pos h5] at h;omega
 rw [if_neg h5] at h
 by_cases h6:80 < depthN (at' lib i).body
 · rw [if_pos h6] at h;omega
 rw [if_neg h6] at h
 by_cases h7:2000 < sizeN (at' lib i).body
 · rw [if_pos h7] at h;omega
 rw [if_neg h7] at h
 by_cases h8:¬ (checkN lib (at' lib i).body (parsV (at' lib i).params)).2=0
 · rw [if_pos h8] at h;exact absurd h h8
 rw [if_neg h8] at h
 have h8:=Classical.not_not.1 h8
 by_cases h9:¬ (checkN lib (at' lib i).body (parsV (at' lib i).params)).1=(at' lib i).list
 · rw [if_pos h9] at h;omega
 have h9:=Classical.not_not.1 h9
 exact ⟨by omega,by simpa using h2,h3,h4,by simpa using h5,by omega,by omega,h8,h9⟩
theorem zaR {lib:List Fn} (h:(validE lib).2=0) {i:Nat} (hi:i < lib.length):FnOk lib i:=
 zoF (zfs lib lib.length 0 h i (Nat.zero_le _) (by omega))
theorem zfQ {l:List Par} (h:parsE l=0):l.length≤8:=by
 unfold parsE at h
 by_cases h8:8 < l.length
 · rw [if_pos h8] at h;omega
 · omega
end Go.Proofs.YtpobmoegmdhbpaaGreatDoor
