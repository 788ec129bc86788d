/- Contracts and plain lemmas (AnfG, AnfH, AnfI, PAnf2, AnfJ, AnfK, AnfQ): no statement of the seat is proved here. -/
import Derived.Test.YtnjfnellghhkaaaGreatDoorYa2
import Derived.Deep.DeepCutAuto
import Derived.StillTailTactics
set_option linter.unusedSimpArgs false
set_option linter.unusedVariables false
set_option linter.unusedSectionVars false
set_option maxRecDepth 100000
set_option maxHeartbeats 6400000
namespace Go.Proofs.YtnjfnellghhkaaaGreatDoor
open Go.RowKit
variable {A:Nat → Prop}{A':Nat → Prop}{A1:Nat → Prop}{L:List (  Nat × Obj )}{N:Nat}{S:Nat → Prop}{args:List ByteArray}{arr:Array Value}{av:Value}{base:Nat}{bs:List Bd}{bv:Value}{bv1:Value}{c4:Value}{c41:Value}{env:Env}{g:Nat}{k:Nat}{lib:List Fn}{pb:Nat}{po:Nat}{ts:List Par}{tv:Value}{tv1:Value}{v:Value}{w:World}{w':World}{w1:World}{w2:World}{xs:List Value}
theorem StrsAt.form'{l:List ByteArray}(h:StrsAt A w v l):∃a c,v=.slice a l.length c:=by obtain⟨cs,h,_⟩:=h;exact h.form
theorem zip(w:World)(x y:Obj):((w.alloc x).alloc y).heap[w.heap.size]?=some x:=by rw[Below.heap_alloc _ _ _ (by simp)];exact zag w x
theorem zjq{bo bm:Nat}(h:k=bo∨tv.ownBlock=some k):Mut bo bm pb tv bv k:=by
 rcases h with h|h;·exact .inl h
 ·exact .inr (.inr (.inr (.inl h)))
theorem zhl(n:Nat):(tname n).size≤n+2:=by have:=ziE n;show(116::Lib.decDigits n).toArray.size≤_;simp;omega
theorem cells8{b e:Nat}{v0 v1 v2 v3 v4 v5 v6 v7:Value}(h:w.heap[b]?=some (.cells #[v0,v1,v2,v3,v4,v5,v6,v7] e (0,0))):w.cell? ⟨b,0,none⟩=some v0∧w.cell? ⟨b,1,none⟩=some v1∧w.cell? ⟨b,2,none⟩=some v2∧w.cell? ⟨b,3,none⟩=some v3∧w.cell? ⟨b,4,none⟩=some v4∧w.cell? ⟨b,5,none⟩=some v5∧w.cell? ⟨b,6,none⟩=some v6∧w.cell? ⟨b,7,none⟩=some v7:=⟨zae h 0 rfl,zae h 1 rfl,zae h 2 rfl,zae h 3 rfl,zae h 4 rfl,zae h 5 rfl,zae h 6 rfl,zae h 7 rfl⟩
theorem src8(w:World)(v0 v1 v2 v3 v4 v5 v6 v7:Value)(e:TypeId):∀j u,[v0,v1,v2,v3,v4,v5,v6,v7][j]?=some u→(w.alloc (.cells #[v0,v1,v2,v3,v4,v5,v6,v7] e)).cell? ((⟨w.heap.size,0,none⟩:Addr).add j)=some u:=by
 intro j u hj;have e0:(⟨w.heap.size,0,none⟩:Addr).add j=⟨w.heap.size,j,none⟩:=by simp only[Addr.add];split;(·subst_vars;rfl);·simp
 rw[e0];exact zae (heap_alloc_new w _) j (by simpa using hj)
theorem last8{e n:Nat}{z0 z1 z2 z3 z4 z5 z6 z7:Value}(h:w.ownsRow base e 8 v (n+1) (xs++[z0,z1,z2,z3,z4,z5,z6,z7]))(hx:xs.length=n*8):∃g cap,v=.slice (some ⟨g,0,none⟩) (n+1) cap∧g<w.heap.size∧(∀j,w.frozen? ⟨g,j,none⟩=false)∧w.cell? ⟨g,n*8,none⟩=some z0∧w.cell? ⟨g,n*8+1,none⟩=some z1∧w.cell? ⟨g,n*8+2,none⟩=some z2∧w.cell? ⟨g,n*8+3,none⟩=some z3∧w.cell? ⟨g,n*8+4,none⟩=some z4∧w.cell? ⟨g,n*8+5,none⟩=some z5∧w.cell? ⟨g,n*8+6,none⟩=some z6∧w.cell? ⟨g,n*8+7,none⟩=some z7:=by obtain⟨g,cap,cur,rfl,hnc,hh,hs,hm,hg,ht,hcl⟩:=zcw h (by omega);refine⟨g,cap,rfl,by rw[Array.getElem?_eq_some_iff]at hh;exact hh.1,fun j=>by simp[World.frozen?,hh],?_⟩;refine⟨hcl _ _ ?_,hcl _ _ ?_,hcl _ _ ?_,hcl _ _ ?_,hcl _ _ ?_,hcl _ _ ?_,hcl _ _ ?_,hcl _ _ ?_⟩<;>(rw[List.getElem?_append_right (by omega),hx];simp)
theorem VSt.grow {A:Nat→Prop} {W WB w2 X:World} {bV bo bm pb po N:Nat} {c0 c1 c2 c4 c4' c5 tv bv v' lv:Value} {lib:List Fn} {ts:List Par} {bs:List Bd} {env:Env} {xs:List Value} {v0 v1 v2 v3 v4 v5 v6 v7:Value} {b:Bd}
 (h:VSt A W bV bo bm pb po N c0 c1 c2 c4 c5 tv bv lv lib ts bs env) (hb:Below W.heap.size W WB) (hg:WB.grownBy w2 bv.ownBlock) (hn:NewOr WB bv v') (hk:Keeps w2 X (fun k=>v'.ownBlock=some k∨k=pb))
 (ho:OutAt X bo c0 c1 c2 c4' c5 tv ts) (hp:PtrAt X bo pb po v' c4') (hr:X.ownsRow 0 141 8 v' (bs.length+1) (xs ++ [v0,v1,v2,v3,v4,v5,v6,v7])) (hx:xs.length=bs.length * 8)
 (hcs:∀ j,j < bs.length→BdCells A W (fun i=>vat xs (j * 8+i)) (at' bs j)) (hbc:BdCells A W (fun i=>vat [v0,v1,v2,v3,v4,v5,v6,v7] i) b):
 VSt A X bV bo bm pb po N c0 c1 c2 c4' c5 tv v' lv lib ts (bs ++ [b]) env∧Keeps W X (Mut bo bm pb tv bv)∧NewOr W bv v':=by
 have hlt:=h.mutlt
 have hn':NewOr W bv v':=fun k e=>by
  rcases hn k e with e|e
  · exact .inl e
  · exact .inr (Nat.le_trans hb.size e)
 have hK:Keeps W X (fun k=>bv.ownBlock=some k∨k=pb):=by
  refine (Keeps.of_below _ hb).trans ((Keeps.of_grown (S:=fun k=>bv.ownBlock=some k∨k=pb) hg (fun k e=>.inl (.inl e))).trans hk (fun k e=>?_)) (fun k e=>.inl e)
  rcases e with e|e
  · rcases hn k e with e|e
    · exact .inl (.inl e)
    · exact .inr e
  · exact .inl (.inr e)
 have hA:∀ k,A k→¬ (bv.ownBlock=some k∨k=pb):=by
  rintro k a (e|e)
  · exact h.mutA k (.inr (.inr (.inr (.inr e)))) a
  · exact h.mutA k (.inr (.inr (.inl e))) a
 have hne:∀ k,k < W.heap.size→bv.ownBlock≠some k→v'.ownBlock≠some k:=fun k hk' h1 e=>by
  rcases hn' k e with e|e
  · exact h1 e
  · omega
 have hst:Stays A A W X:=hK.stays fun k a _=>hA k a
 refine ⟨?_,hK.mono (by rintro k (e|e);exact .inr (.inr (.inr (.inr e)));exact .inr (.inr (.inl e))),hn'⟩
 exact {
  out:=ho
  vis:=h.vis.keeps hK (hA _ h.visA)
  lib:=h.lib.stays hst
  map:=hK.smap h.map (by rintro (e|e);exact h.bvbm e;exact h.pbbm e.symm)
  ptr:=hp
  row:=BdsOwn.snoc hr hx (fun j hj=>(hcs j hj).stays hst) (hbc.stays hst)
  tab:=h.tab.stays hK (fun g e=>hA g (h.tabA g e))
  tabA:=h.tabA
  visA:=h.visA
  alt:=fun k a=>Nat.lt_of_lt_of_le (h.alt k a) hK.size
  mutA:=by
   intro k hm a
   rcases Mut.new hm (NewOr.refl W tv) hn' with e|e
   · exact h.mutA k e a
   · have:=h.alt k a;omega
  bobm:=h.bobm
  pbbm:=h.pbbm
  tvbm:=h.tvbm
  tvpb:=h.tvpb
  bvbo:=hne _ h.out.lt h.bvbo
  bvbm:=hne _ h.map.lt h.bvbm
  bvpb:=hne _ (hlt _ (.inr (.inr (.inl rfl)))) h.bvpb
  sep:=fun k e1 e2=>by
   rcases hn' k e2 with e|e
   · exact h.sep k e1 e
   · have:=hlt k (.inr (.inr (.inr (.inl e1))));omega }
abbrev set8(w:World)(g o:Nat)(v0 v1 v2 v3 v4 v5 v6 v7:Value):World:=(((((((w.setCell ⟨g,o,none⟩ v0).setCell ⟨g,o+1,none⟩ v1).setCell ⟨g,o+2,none⟩ v2).setCell ⟨g,o+3,none⟩ v3).setCell ⟨g,o+4,none⟩ v4).setCell ⟨g,o+5,none⟩ v5).setCell ⟨g,o+6,none⟩ v6).setCell ⟨g,o+7,none⟩ v7
theorem VSt.stored{W WB:World}{bV bo bm cap:Nat}{c0 c1 c2 c5 lv:Value}{zs:List Value}{v0 v1 v2 v3 v4 v5 v6 v7:Value}{b:Bd}(h:VSt A W bV bo bm pb po N c0 c1 c2 c4 c5 tv bv lv lib ts bs env)(hb:Below W.heap.size W WB)(hg:WB.grownBy w2 bv.ownBlock)(hn:NewOr WB bv (.slice (some ⟨g,0,none⟩) (bs.length+1) cap))(hr:w2.ownsRow 0 141 8 (.slice (some ⟨g,0,none⟩) (bs.length+1) cap) (bs.length+1) (xs++zs))(hx:xs.length=bs.length*8)(hz:zs.length=8)(hcs:∀j,j<bs.length→BdCells A W (fun i=>vat xs (j*8+i)) (at' bs j))(hbc:BdCells A W (fun i=>vat [v0,v1,v2,v3,v4,v5,v6,v7] i) b):∀X,(X=(set8 w2 g (bs.length*8) v0 v1 v2 v3 v4 v5 v6 v7).setCell ⟨pb,po,none⟩ (.slice (some ⟨g,0,none⟩) (bs.length+1) cap)∨X=set8 (w2.setCell ⟨pb,po,none⟩ (.slice (some ⟨g,0,none⟩) (bs.length+1) cap)) g (bs.length*8) v0 v1 v2 v3 v4 v5 v6 v7)→∃c4',VSt A X bV bo bm pb po N c0 c1 c2 c4' c5 tv (.slice (some ⟨g,0,none⟩) (bs.length+1) cap) lv lib ts (bs++[b]) env∧Keeps W X (Mut bo bm pb tv bv)∧NewOr W bv (.slice (some ⟨g,0,none⟩) (bs.length+1) cap)∧(pb≠bo→c4'=c4):=by
 have hlt:=h.mutlt;have hV2:OutAt w2 bo c0 c1 c2 c4 c5 tv ts∧PtrAt w2 bo pb po bv c4:=by have hk:Keeps W w2 (fun k=>bv.ownBlock=some k):=(Keeps.of_below _ hb).trans (Keeps.of_grown (S:=fun k=>bv.ownBlock=some k) hg (fun k e=>.inl e)) (fun k e=>.inl e);exact⟨h.out.keeps hk h.bvbo (fun k e e2=>h.sep k e e2),h.ptr.keeps hk h.bvpb⟩
 obtain⟨ho2,hp2⟩:=hV2;have hgne:∀k,k<W.heap.size→bv.ownBlock≠some k→k≠g:=fun k hk h1 e=>by subst e;rcases hn k rfl with e|e;(·exact h1 e);·have:=hb.size;omega
 have hgbo:bo≠g:=hgne _ h.out.lt h.bvbo;have hgpb:pb≠g:=hgne _ (hlt _ (.inr (.inr (.inl rfl)))) h.bvpb;have hgtv:∀k,tv.ownBlock=some k→k≠g:=fun k e e2=>by subst e2;rcases hn k rfl with e'|e';(·exact h.sep k e e');·have:=hlt k (.inr (.inr (.inr (.inl e))));have:=hb.size;omega
 rintro X(rfl|rfl);·obtain⟨r1,r2⟩:=zfn (n:=bs.length) v0 v1 v2 v3 v4 v5 v6 v7 hr rfl hx hz;have ho3:=ho2.keeps r2 hgbo hgtv;have hp3:=hp2.keeps r2 hgpb;obtain⟨c4',a1,a2,a3⟩:=zgR (.slice (some ⟨g,0,none⟩) (bs.length+1) cap) hp3 ho3 h.tvpb;have hks:=zaf (set8 w2 g (bs.length*8) v0 v1 v2 v3 v4 v5 v6 v7) pb po (.slice (some ⟨g,0,none⟩) (bs.length+1) cap);have r3:=zau r1 hks (fun k e e2=>by simp only[Value.ownBlock,Option.some.injEq]at e;exact hgpb ((show k=pb from e2)▸e.symm));obtain⟨b1,b2,b3⟩:=h.grow hb hg hn ((r2.mono (T:=fun k=>(Value.slice (some ⟨g,0,none⟩) (bs.length+1) cap).ownBlock=some k∨k=pb) (fun k e=>.inl (by simp[Value.ownBlock,(show k=g from e)]))).same (hks.mono (fun k e=>.inr e))) a1 a2 r3 hx hcs hbc;exact⟨c4',b1,b2,b3,a3⟩
 ·obtain⟨c4',a1,a2,a3⟩:=zgR (.slice (some ⟨g,0,none⟩) (bs.length+1) cap) hp2 ho2 h.tvpb;have hks:=zaf w2 pb po (.slice (some ⟨g,0,none⟩) (bs.length+1) cap);have r3:=zau hr hks (fun k e e2=>by simp only[Value.ownBlock,Option.some.injEq]at e;exact hgpb ((show k=pb from e2)▸e.symm));obtain⟨r1,r2⟩:=zfn (n:=bs.length) v0 v1 v2 v3 v4 v5 v6 v7 r3 rfl hx hz;have ho3:=a1.keeps r2 hgbo hgtv;have hp3:=a2.keeps r2 hgpb;obtain⟨b1,b2,b3⟩:=h.grow hb hg hn ((hks.mono (T:=fun k=>(Value.slice (some ⟨g,0,none⟩) (bs.length+1) cap).ownBlock=some k∨k=pb) (fun k e=>.inr e)).same (r2.mono (fun k e=>.inl (by simp[Value.ownBlock,(show k=g from e)])))) ho3 hp3 r1 hx hcs hbc;exact⟨c4',b1,b2,b3,a3⟩
theorem VSt.headAt{W WB:World}{bV bo bm:Nat}{c0 c1 c2 c5 lv:Value}(h:VSt A W bV bo bm pb po N c0 c1 c2 c4 c5 tv bv lv lib ts bs env)(hb:Below W.heap.size W WB)(hg:WB.grownBy w2 bv.ownBlock):w2.cell? ⟨pb,po,none⟩=some bv∧w2.frozen? ⟨pb,po,none⟩=false:=by have hk:Keeps W w2 (fun k=>bv.ownBlock=some k):=(Keeps.of_below _ hb).trans (Keeps.of_grown (S:=fun k=>bv.ownBlock=some k) hg (fun k e=>.inl e)) (fun k e=>.inl e);exact(h.ptr.keeps hk h.bvpb).cell (h.out.keeps hk h.bvbo (fun k e e2=>h.sep k e e2))
def BindPost(A:Nat→Prop)(W:World)(bV bo bm pb po N:Nat)(c0 c1 c2 c4 c5 tv bv lv:Value)(lib:List Fn)(ts:List Par)(bs:List Bd)(env:Env)(X:World):Prop:=∃v' c4',VSt A X bV bo bm pb po N c0 c1 c2 c4' c5 tv v' lv lib ts bs env∧Keeps W X (Mut bo bm pb tv bv)∧NewOr W bv v'∧(pb≠bo→c4'=c4)
theorem zkf(A:Nat→Prop)(w:World)(bV bo bm pb po N:Nat)(c0 c1 c2 c4 c5 tv bv lv:Value)(lib:List Fn)(ts:List Par)(bs:List Bd)(env:Env)(to0 name:ByteArray)(l0 list:Bool)(op num:Int)(av hv ev:Value)(args:List ByteArray)(thn els:List Bd)(h:VSt A w bV bo bm pb po N c0 c1 c2 c4 c5 tv bv lv lib ts bs env)(ha:StrsAt A w av args)(ht:BdsAt A w hv thn)(he:BdsAt A w ev els)(hop:0≤op∧op≤255)(hnum:In64 num)(hname:name.size≤maxLen)(hl:ts.length<200000)(hb:bs.length<200000):Calls Tryz.prog 111 #[.pointer (some ⟨bV,0,none⟩),.agg #[.string to0,.bool l0,.int .u8 op,.int .i64 num,.string name,av,hv,ev],.bool list,.pointer (some ⟨pb,po,none⟩)] w fun e w'=>e=.returned (parV ⟨tname ts.length,list⟩)∧VLeft A w w' bV bo bm pb po N c0 c1 c2 c4 c5 tv bv lv lib (ts++[⟨tname ts.length,list⟩]) (bs++[.mk (tname ts.length) list op num name args thn els]) env:=by
 obtain⟨aa,ca,rfl⟩:=ha.form';obtain⟨_,ah,ch,rfl⟩:=ht.form;obtain⟨_,ae,ce,rfl⟩:=he.form;have hA:Below w.heap.size w ((w.alloc (.cells #[.string to0,.bool l0,.int .u8 op,.int .i64 num,.string name,.slice aa args.length ca,.slice ah thn.length ch,.slice ae els.length ce] 141)).alloc (.cells #[.string ⟨#[]⟩,.bool false] 71)):=((Below.refl _ _).alloc (Nat.le_refl _) _).alloc (by simp) _;have h0:=h.below hA;have HT:=Lib.hid (zlo _ bV bo bm c0 c1 c2 c4 c5 tv lv ts list h0.vis h0.out (fun e=>h0.mutA _ (.inl rfl) (e▸h0.visA)) (fun e=>h0.mutA _ (.inr (.inr (.inr (.inl e)))) h0.visA) hl h0.tab);have HL:=Lib.hid h.mutlt;have hn0:=zip w (.cells #[.string to0,.bool l0,.int .u8 op,.int .i64 num,.string name,.slice aa args.length ca,.slice ah thn.length ch,.slice ae els.length ce] 141) (.cells #[.string ⟨#[]⟩,.bool false] 71);have hsz0:((w.alloc (.cells #[.string to0,.bool l0,.int .u8 op,.int .i64 num,.string name,.slice aa args.length ca,.slice ah thn.length ch,.slice ae els.length ce] 141)).alloc (.cells #[.string ⟨#[]⟩,.bool false] 71)).heap.size=w.heap.size+1+1:=by simp
 have hn1':=zan w (.cells #[.string to0,.bool l0,.int .u8 op,.int .i64 num,.string name,.slice aa args.length ca,.slice ah thn.length ch,.slice ae els.length ce] 141) (.cells #[.string ⟨#[]⟩,.bool false] 71);have H:=Lib.hid h;have H0:=Lib.hid h0;clear h h0;go_enter Tryz.func111,Tryz.ntmps111;go_wp2_with(go_at_call 136;refine HT.out.mono ?_;rintro e w1⟨rfl,tv1,ho1,hk1,hn1⟩;simp only[parV];have n1:=(hk1.block w.heap.size (by omega) (fun e=>absurd (HL.out _ (zjq e)) (Nat.lt_irrefl _))).trans hn0;have b0:=zae n1 0 rfl;have b1:=zae n1 1 rfl;have g0:=unfrozen n1 0;have g1:=unfrozen n1 1;have hlt1:w.heap.size<w1.heap.size:=Nat.lt_of_lt_of_le (by omega) hk1.size);have hV1:=H0.out.temp ho1 hk1 hn1;have HMA:Hid (∀k,Mut bo bm pb tv1 bv k→k≠w.heap.size):=Lib.hid (fun k hm e=>by rcases Mut.new hm hn1 (NewOr.refl _ bv)with e'|e';(·have:=HL.out k e';omega);·omega);have hV2:=(hV1.keeps (zaf w1 w.heap.size 0 (.string (tname ts.length))) (fun k a e=>by have:=H.out.alt k a;omega) HMA.out).keeps (zaf _ w.heap.size 1 (.bool list)) (fun k a e=>by have:=H.out.alt k a;omega) HMA.out;have hAP:=(Below.refl (((w1.setCell ⟨w.heap.size,0,none⟩ (.string (tname ts.length))).setCell ⟨w.heap.size,1,none⟩ (.bool list))).heap.size ((w1.setCell ⟨w.heap.size,0,none⟩ (.string (tname ts.length))).setCell ⟨w.heap.size,1,none⟩ (.bool list))).alloc (Nat.le_refl _) (.cells #[.string (tname ts.length),.bool list] 71);have hV3:=hV2.below hAP;have n2:=heap_setCell_same _ _ 1 _ _ (.bool list) (heap_setCell_same w1 _ 0 _ _ (.string (tname ts.length)) n1);have hlt2:w.heap.size<((w1.setCell ⟨w.heap.size,0,none⟩ (.string (tname ts.length))).setCell ⟨w.heap.size,1,none⟩ (.bool list)).heap.size:=by simpa[World.setCell]using hlt1
 have n3:=(hAP.block w.heap.size hlt2).trans n2;have hlw:=Nat.lt_of_lt_of_le hlt2 hAP.size;have hsz2:((w1.setCell ⟨w.heap.size,0,none⟩ (.string (tname ts.length))).setCell ⟨w.heap.size,1,none⟩ (.bool list)).heap.size=w1.heap.size:=by simp[World.setCell]
 have hlt9:w1.heap.size<(((w1.setCell ⟨w.heap.size,0,none⟩ (.string (tname ts.length))).setCell ⟨w.heap.size,1,none⟩ (.bool list)).alloc (.cells #[.string (tname ts.length),.bool list] 71)).heap.size:=by simp[World.setCell]
 have m9:=zag ((w1.setCell ⟨w.heap.size,0,none⟩ (.string (tname ts.length))).setCell ⟨w.heap.size,1,none⟩ (.bool list)) (.cells #[.string (tname ts.length),.bool list] 71);rw[hsz2]at m9;have HMB:Hid (∀k,Mut bo bm pb tv1 bv k→k≠w.heap.size+1):=Lib.hid (fun k hm e=>by rcases Mut.new hm hn1 (NewOr.refl _ bv)with e'|e';(·have:=HL.out k e';omega);·omega);have HMC:Hid (∀k,Mut bo bm pb tv1 bv k→k≠w1.heap.size):=Lib.hid (fun k hm e=>by have:=hV1.mutlt k hm;omega);have m8:=(hk1.block (w.heap.size+1) (by omega) (fun e=>by have:=HL.out _ (zjq e);omega)).trans hn1';have hlt8:w.heap.size+1<w1.heap.size:=by have:=hk1.size;omega
 have m8:=((hAP.block (w.heap.size+1) (by rw[hsz2];exact hlt8)).trans (((zaf _ w.heap.size 1 (.bool list)).block (w.heap.size+1) (by simpa[World.setCell]using hlt8) (by omega)).trans ((zaf w1 w.heap.size 0 (.string (tname ts.length))).block (w.heap.size+1) hlt8 (by omega)))).trans m8;obtain⟨p0,p1,p2,p3,p4,p5,p6,p7⟩:=cells8 n3;have hKW:=(((((Keeps.of_below (Mut bo bm pb tv bv) hA).trans hk1 (fun k e=>.inl (zjq e))).trans (zaf w1 w.heap.size 0 (.string (tname ts.length))) (fun k e=>.inr (by omega))).trans (zaf _ w.heap.size 1 (.bool list)) (fun k e=>.inr (by omega)))).alloc (.cells #[.string (tname ts.length),.bool list] 71);clear n2 n1 b0 b1 g0 g1 hAP hV2 hV1 hlt2 hsz2;obtain⟨q0,q1⟩:=hV3.ptr.cell hV3.out;generalize hW:(((w1.setCell ⟨w.heap.size,0,none⟩ (.string (tname ts.length))).setCell ⟨w.heap.size,1,none⟩ (.bool list)).alloc (.cells #[.string (tname ts.length),.bool list] 71))=W at*;obtain⟨xs,hrow,hcs⟩:=hV3.row;obtain⟨ab,cb,rfl⟩:=zas hrow;have HCS:=Lib.hid hcs;have HROW:=Lib.hid hrow;have H3:=Lib.hid hV3;have HX:Hid (xs.length=bs.length*8):=Lib.hid hrow.1;have HM8:=Lib.hid m8;have HM9:=Lib.hid m9;clear hcs hrow hV3 hW n3 m8 m9;have hB:Below W.heap.size W (W.alloc (.cells #[.string ⟨#[]⟩,.bool false,.int .u8 0,.int .i64 0,.string ⟨#[]⟩,.slice none 0 0,.slice none 0 0,.slice none 0 0] 141)).drew:=zak ((Below.refl _ _).alloc (Nat.le_refl _) _) 1;have HBC:Hid (BdCells A W (fun i=>vat [.string (tname ts.length),.bool list,.int .u8 op,.int .i64 num,.string name,.slice aa args.length ca,.slice ah thn.length ch,.slice ae els.length ce] i) (.mk (tname ts.length) list op num name args thn els)):=Lib.hid (by have hst:Stays A A w W:=hKW.stays (fun k a _ hm=>H.out.mutA k hm a);exact⟨rfl,rfl,rfl,rfl,rfl,ha.stays hst,ht.stays hst,he.stays hst,by have:=zhl ts.length;unfold maxLen;simp only[Bd.to];omega,hop,hnum,hname⟩);have HSRC:=Lib.hid (src8 W (.string ⟨#[]⟩) (.bool false) (.int .u8 0) (.int .i64 0) (.string ⟨#[]⟩) (.slice none 0 0) (.slice none 0 0) (.slice none 0 0) 141);have HPN:Hid (∀g cap,NewOr (W.alloc (.cells #[.string ⟨#[]⟩,.bool false,.int .u8 0,.int .i64 0,.string ⟨#[]⟩,.slice none 0 0,.slice none 0 0,.slice none 0 0] 141)).drew (.slice ab bs.length cb) (.slice (some ⟨g,0,none⟩) (bs.length+1) cap)→g≠pb):=Lib.hid (by intro g cap hn e;subst e;rcases hn g rfl with e|e;(·exact H3.out.bvpb e);·have:=H3.out.mutlt g (.inr (.inr (.inl rfl)));have:=hB.size;omega);have hil:(bs.length:Int)<(bs.length:Int)+1:=by omega
 have hlp:=H3.out.mutlt pb (.inr (.inr (.inl rfl)));have k0:=(hB.cell (p:=⟨w.heap.size,0,none⟩) hlw).trans p0;have k1:=(hB.cell (p:=⟨w.heap.size,1,none⟩) hlw).trans p1;have k2:=(hB.cell (p:=⟨w.heap.size,2,none⟩) hlw).trans p2;have k3:=(hB.cell (p:=⟨w.heap.size,3,none⟩) hlw).trans p3;have k4:=(hB.cell (p:=⟨w.heap.size,4,none⟩) hlw).trans p4;have k5:=(hB.cell (p:=⟨w.heap.size,5,none⟩) hlw).trans p5;have k6:=(hB.cell (p:=⟨w.heap.size,6,none⟩) hlw).trans p6;have k7:=(hB.cell (p:=⟨w.heap.size,7,none⟩) hlw).trans p7;have kp:=(hB.cell (p:=⟨pb,po,none⟩) hlp).trans q0;go_cut[24](fun s24 wx=>BindPost A W bV bo bm pb po N c0 c1 c2 c4 c5 tv1 (.slice ab bs.length cb) lv lib (ts++[⟨tname ts.length,list⟩]) (bs++[.mk (tname ts.length) list op num name args thn els]) env wx);case first=>go_region_law((refine zbX TBd (by rfl) (by decide) (by rfl) (.tmp 20) (.tmp 23) (by rfl) (by rfl) (by rfl) (zaU HROW.out hB) (.inr ⟨⟨W.heap.size,0,none⟩,1,by rfl,HSRC.out⟩) (by rfl) (by simp[Value.oneCell']) (by unfold maxLen;omega) (by omega) (Nat.zero_le _) ?_;intro v' w2 hown hg hnew;obtain⟨g,cap,rfl,hglt,hfz,z0,z1,z2,z3,z4,z5,z6,z7⟩:=last8 hown HX.out;have hgp:=HPN.out g cap hnew;have HP:=Lib.hid (H3.out.stored hB hg hnew hown HX.out rfl HCS.out HBC.out);obtain⟨y0,y1⟩:=H3.out.headAt hB hg;clear hown hg hnew));all_goals clear z0 z1 z2 z3 z4 z5 z6 z7 y0 y1 k0 k1 k2 k3 k4 k5 k6 k7 kp p0 p1 p2 p3 p4 p5 p6 p7 hil;go_wp2;go_meet;refine⟨_,HP.out _ ?_⟩;first|(left;with_reducible rfl)|(right;with_reducible rfl)
 case rest=>obtain⟨v',c4',hVX,hkX,hnX,hcX⟩:=hcut;have x8:=(hkX.block (w.heap.size+1) (by omega) (fun e=>HMB.out _ e rfl)).trans HM8.out;have x9:=(hkX.block w1.heap.size hlt9 (fun e=>HMC.out _ e rfl)).trans HM9.out;have u0:=zae x9 0 rfl;have u1:=zae x9 1 rfl;have t0:=zae x8 0 rfl;have t1:=zae x8 1 rfl;have f0:=unfrozen x8 0;have f1:=unfrozen x8 1;(have hlX:w.heap.size+1<wc.heap.size:=by have:=hkX.size;omega);have HX8:=Lib.hid x8;have HVX:=Lib.hid hVX;clear k0 k1 k2 k3 k4 k5 k6 k7 kp p0 p1 p2 p3 p4 p5 p6 p7 hil q0 q1 hVX x8 x9;go_wp2;have e0:=heap_setCell_same wc _ 0 _ _ (.string (tname ts.length)) HX8.out;have e1:=heap_setCell_same _ _ 1 _ _ (.bool list) e0;(try simp only[Exit.inBlock,Exit.then]);refine bodyPost_ret (results_cell_row (P:=Tryz.prog) rfl _ _ (w.heap.size+1) _ _ _ _ rfl e1 Tryz.underlying71 rfl (by kernel_rfl)) rfl ?_;(have hMX:∀k,Mut bo bm pb tv1 v' k→k≠w.heap.size+1:=fun k hm e=>by rcases Mut.new hm (NewOr.refl W tv1) hnX with e'|e';(·exact HMB.out k e' e);·omega);(have hAX:∀k,A k→¬k=w.heap.size+1:=fun k a e=>by have:=H.out.alt k a;omega);refine⟨rfl,A,tv1,v',c4',(HVX.out.keeps (zaf wc (w.heap.size+1) 0 _) hAX hMX).keeps (zaf _ (w.heap.size+1) 1 _) hAX hMX,?_,fun _ a=>a,fun _ a=>.inl a,?_,?_,hcX⟩;(·refine((hKW.trans hkX (fun k e=>?_)).trans (zaf wc (w.heap.size+1) 0 _) (fun k e=>.inr (by omega))).trans (zaf _ (w.heap.size+1) 1 _) (fun k e=>.inr (by omega));rcases Mut.new e hn1 (NewOr.refl _ _)with e'|e';(·exact .inl e');·exact .inr (by omega));(·intro k e;rcases hn1 k e with e|e;(·exact .inl e);·exact .inr (by omega));·intro k e;rcases hnX k e with e|e;(·exact .inl e);·exact .inr (by omega)
structure VC where
 bV:Nat
 bo:Nat
 bm:Nat
 c0:Value
 c1:Value
 c2:Value
 c5:Value
 lv:Value
 lib:List Fn
def St(C:VC)(pb po:Nat)(A:Nat→Prop)(w:World)(tv bv c4:Value)(ts:List Par)(bs:List Bd)(env:Env)(N:Nat):Prop:=VSt A w C.bV C.bo C.bm pb po N C.c0 C.c1 C.c2 c4 C.c5 tv bv C.lv C.lib ts bs env
def Mu(C:VC)(pb:Nat)(tv bv:Value)(k:Nat):Prop:=Mut C.bo C.bm pb tv bv k
structure Step (C:VC) (pb:Nat) (A:Nat→Prop) (w:World) (tv bv c4:Value) (A':Nat→Prop) (w':World) (tv' bv' c4':Value):Prop where
 keeps:Keeps w w' (Mu C pb tv bv)
 up:∀ k,A k→A' k
 new:∀ k,A' k→A k∨w.heap.size≤k
 ntv:NewOr w tv tv'
 nbv:NewOr w bv bv'
 hc4:pb≠C.bo→c4'=c4
theorem Step.refl(C:VC)(pb:Nat)(A:Nat→Prop)(w:World)(tv bv c4:Value):Step C pb A w tv bv c4 A w tv bv c4:=⟨Keeps.refl _ _,fun _ a=>a,fun _ a=>.inl a,NewOr.refl _ _,NewOr.refl _ _,fun _=>rfl⟩
theorem Step.trans {C:VC} {pb:Nat} {A A1 A2:Nat→Prop} {w w1 w2:World} {tv bv c4 tv1 bv1 c41 tv2 bv2 c42:Value} (h:Step C pb A w tv bv c4 A1 w1 tv1 bv1 c41) (h':Step C pb A1 w1 tv1 bv1 c41 A2 w2 tv2 bv2 c42):Step C pb A w tv bv c4 A2 w2 tv2 bv2 c42 where
 keeps:=h.keeps.trans h'.keeps (fun k e=>Mut.new e h.ntv h.nbv)
 up:=fun k a=>h'.up k (h.up k a)
 new:=fun k a=>by
  rcases h'.new k a with a|a
  · exact h.new k a
  · exact .inr (Nat.le_trans h.keeps.size a)
 ntv:=h.ntv.trans h'.ntv h.keeps.size
 nbv:=h.nbv.trans h'.nbv h.keeps.size
 hc4:=fun e=>(h'.hc4 e).trans (h.hc4 e)
variable {C:VC}
theorem Step.young(h:Step C pb A w tv bv c4 A1 w1 tv1 bv1 c41)(hk:Keeps w1 w2 S)(hS:∀k,S k→w.heap.size≤k):Step C pb A w tv bv c4 A1 w2 tv1 bv1 c41:=⟨h.keeps.trans hk (fun k e=>.inr (hS k e)),h.up,h.new,h.ntv,h.nbv,h.hc4⟩
theorem Step.below(h:Step C pb A w tv bv c4 A1 w1 tv1 bv1 c41)(hb:Below w1.heap.size w1 w2):Step C pb A w tv bv c4 A1 w2 tv1 bv1 c41:=h.young (Keeps.of_below (fun _=>False) hb) (fun _ e=>e.elim)
theorem Step.size(h:Step C pb A w tv bv c4 A1 w1 tv1 bv1 c41):w.heap.size≤w1.heap.size:=h.keeps.size
theorem Step.more{A2:Nat→Prop}(h:Step C pb A w tv bv c4 A1 w1 tv1 bv1 c41)(h1:∀k,A1 k→A2 k)(h2:∀k,A2 k→A1 k∨w.heap.size≤k):Step C pb A w tv bv c4 A2 w1 tv1 bv1 c41:=⟨h.keeps,fun k a=>h1 k (h.up k a),fun k a=>by rcases h2 k a with a|a;(·exact h.new k a);·exact .inr a,h.ntv,h.nbv,h.hc4⟩
theorem St.young(h:St C pb po A w tv bv c4 ts bs env N)(hk:Keeps w w' S)(hA:∀k,A k→¬S k)(hM:∀k,Mu C pb tv bv k→¬S k):St C pb po A w' tv bv c4 ts bs env N:=VSt.keeps h hk hA hM
theorem St.below(h:St C pb po A w tv bv c4 ts bs env N)(hb:Below w.heap.size w w'):St C pb po A w' tv bv c4 ts bs env N:=VSt.below h hb
theorem St.mono{N':Nat}(h:St C pb po A w tv bv c4 ts bs env N)(hN:N≤N'):St C pb po A w tv bv c4 ts bs env N':={h with map:=h.map.mono hN}
theorem St.more {C:VC} {pb po N:Nat} {A A':Nat→Prop} {w:World} {tv bv c4:Value} {ts:List Par} {bs:List Bd} {env:Env} (h:St C pb po A w tv bv c4 ts bs env N) (h1:∀ k,A k→A' k) (h2:∀ k,A' k→A k∨k < w.heap.size∧¬ Mu C pb tv bv k):St C pb po A' w tv bv c4 ts bs env N:=
 have hst:Stays A A' w w:=⟨Nat.le_refl _,fun b _ a=>⟨rfl,h1 b a⟩⟩
 { h with
   lib:=VSt.lib h |>.stays hst
   row:=VSt.row h |>.mono h1
   tabA:=fun g e=>h1 g (VSt.tabA h g e)
   visA:=h1 _ (VSt.visA h)
   alt:=fun k a=>by
    rcases h2 k a with a|a
    · exact VSt.alt h k a
    · exact a.1
   mutA:=fun k m a=>by
    rcases h2 k a with a|a
    · exact VSt.mutA h k m a
    · exact a.2 m }
theorem St.alt(h:St C pb po A w tv bv c4 ts bs env N)(a:A k):k<w.heap.size:=VSt.alt h k a
theorem St.mlt(h:St C pb po A w tv bv c4 ts bs env N)(a:Mu C pb tv bv k):k<w.heap.size:=VSt.mutlt h k a
theorem St.stays{tv' bv' c4':Value}(h:St C pb po A w tv bv c4 ts bs env N)(hs:Step C pb A w tv bv c4 A' w' tv' bv' c4'):Stays A A' w w':=⟨hs.keeps.size,fun b hb a=>⟨hs.keeps.block b hb (fun m=>VSt.mutA h b m a),hs.up b a⟩⟩
def Locs(C:VC)(pb:Nat)(A:Nat→Prop)(tv bv:Value)(w:World)(L:List (Nat×Obj)):Prop:=∀p∈L,w.heap[p.1]?=some p.2∧¬A p.1∧¬Mu C pb tv bv p.1
theorem Locs.lt(h:Locs C pb A tv bv w L){p:Nat×Obj}(hp:p∈L):p.1<w.heap.size:=by have:=(h p hp).1;rw[Array.getElem?_eq_some_iff]at this;exact this.1
theorem Locs.nil:Locs C pb A tv bv w []:=fun p h=>by simp at h
theorem Locs.step{tv' bv' c4':Value}(h:Locs C pb A tv bv w L)(hs:Step C pb A w tv bv c4 A' w' tv' bv' c4'):Locs C pb A' tv' bv' w' L:=fun p hp=>by have hlt:=h.lt hp;obtain⟨h1,h2,h3⟩:=h p hp;refine⟨(hs.keeps.block _ hlt h3).trans h1,fun a=>?_,fun m=>?_⟩;(·rcases hs.new _ a with a|a;(·exact h2 a);·omega);·rcases Mut.new m hs.ntv hs.nbv with a|a;(·exact h3 a);·omega
theorem Locs.keeps(h:Locs C pb A tv bv w L)(hk:Keeps w w' S)(hS:∀p∈L,¬S p.1):Locs C pb A tv bv w' L:=fun p hp=>by obtain⟨h1,h2,h3⟩:=h p hp;exact⟨(hk.block _ (h.lt hp) (hS p hp)).trans h1,h2,h3⟩
theorem Locs.below(h:Locs C pb A tv bv w L)(hb:Below w.heap.size w w'):Locs C pb A tv bv w' L:=h.keeps (Keeps.of_below (fun _=>False) hb) (fun _ _ e=>e)
theorem Locs.sub{L':List (Nat×Obj)}(h:Locs C pb A tv bv w L)(hs:∀p∈L',p∈L):Locs C pb A tv bv w L':=fun p hp=>h p (hs p hp)
theorem Locs.alloc(h:Locs C pb A tv bv w L)(hst:St C pb po A w tv bv c4 ts bs env N)(o:Obj):Locs C pb A tv bv (w.alloc o) ((w.heap.size,o)::L):=fun p hp=>by rcases List.mem_cons.1 hp with rfl|hp;(·exact⟨heap_alloc_new w o,fun a=>Nat.lt_irrefl _ (hst.alt a),fun m=>Nat.lt_irrefl _ (hst.mlt m)⟩);·exact(h.below ((Below.refl _ _).alloc (Nat.le_refl _) _)) p hp
theorem Locs.set{e:Nat}(h:Locs C pb A tv bv w ((g,.cells arr e (0,0))::L))(j:Nat)(x:Value)(hg:∀p∈L,p.1≠g):Locs C pb A tv bv (w.setCell ⟨g,j,none⟩ x) ((g,.cells (arr.setIfInBounds j x) e (0,0))::L):=fun p hp=>by rcases List.mem_cons.1 hp with rfl|hp;(·obtain⟨h1,h2,h3⟩:=h _ (List.mem_cons_self ..);exact⟨heap_setCell_same w g j arr e x h1,h2,h3⟩);·exact((h.sub (fun p hp=>List.mem_cons_of_mem _ hp)).keeps (zaf w g j x) hg) p hp
theorem Locs.blk(h:Locs C pb A tv bv w L){o:Obj}(hm:(g,o)∈L):w.heap[g]?=some o:=(h _ hm).1
theorem St.setLoc(h:St C pb po A w tv bv c4 ts bs env N)(hl:Locs C pb A tv bv w L){o:Obj}(hm:(g,o)∈L)(j:Nat)(x:Value):St C pb po A (w.setCell ⟨g,j,none⟩ x) tv bv c4 ts bs env N:=h.young (zaf w g j x) (fun k a e=>(hl _ hm).2.1 (by rw[show g=k from(e:k=g).symm];exact a)) (fun k m e=>(hl _ hm).2.2 (by rw[show g=k from(e:k=g).symm];exact m))
theorem St.put {C:VC} {pb po N N':Nat} {A:Nat→Prop} {w w':World} {tv bv c4:Value} {ts:List Par} {bs:List Bd} {env env':Env} (h:St C pb po A w tv bv c4 ts bs env N) (hm:SMapLe Tryz.prog 9 w' C.bm (fun s=>(env' s).map parV) N') (hg:w.grownBy w' (some C.bm)):
 St C pb po A w' tv bv c4 ts bs env' N'∧Step C pb A w tv bv c4 A w' tv bv c4:=by
 have hk:Keeps w w' (fun k=>k=C.bm):=Keeps.of_grown hg (fun k e=>.inl (by simpa using e.symm))
 have hA:∀ k,A k→¬ k=C.bm:=fun k a e=>VSt.mutA h k (.inr (.inl e)) a
 have hlt:=VSt.mutlt h
 refine ⟨?_,⟨hk.mono (fun k e=>.inr (.inl e)),fun _ a=>a,fun _ a=>.inl a,NewOr.refl _ _,NewOr.refl _ _,fun _=>rfl⟩⟩
 exact {
  out:=(VSt.out h).keeps hk (VSt.bobm h) (fun k e e2=>VSt.tvbm h (e2 ▸ e))
  vis:=(VSt.vis h).keeps hk (hA _ (VSt.visA h))
  lib:=(VSt.lib h).stays (hk.stays fun k a _=>hA k a)
  map:=hm
  ptr:=(VSt.ptr h).keeps hk (VSt.pbbm h)
  row:=(VSt.row h).keeps hk hA (fun k e e2=>VSt.bvbm h (e2 ▸ e))
  tab:=(VSt.tab h).stays hk (fun g e=>hA g (VSt.tabA h g e))
  tabA:=VSt.tabA h
  visA:=VSt.visA h
  alt:=fun k a=>Nat.lt_of_lt_of_le (VSt.alt h k a) hk.size
  mutA:=VSt.mutA h
  bobm:=VSt.bobm h
  pbbm:=VSt.pbbm h
  tvbm:=VSt.tvbm h
  tvpb:=VSt.tvpb h
  bvbo:=VSt.bvbo h
  bvbm:=VSt.bvbm h
  bvpb:=VSt.bvpb h
  sep:=VSt.sep h }
theorem zmf(env:Env)(s:ByteArray)(p:Par):∀y,(fun y=>if y=s then some (parV p)else(env y).map parV) y=(fun y=>((env.put s p) y).map parV) y:=by intro y;simp only[Env.put];split<;>rfl
def XPost(C:VC)(pb po:Nat)(A:Nat→Prop)(w:World)(tv bv c4:Value)(bs:List Bd)(N:Nat)(X:XR)(e:Ending)(w':World):Prop:=e=.returned (.agg #[.string X.par.name,.bool X.par.list])∧∃A' tv' bv' c4',St C pb po A' w' tv' bv' c4' X.ts (bs++X.bs) X.env N∧Step C pb A w tv bv c4 A' w' tv' bv' c4'
def SmallE(env:Env):Prop:=∀s p,env s=some p→p.name.size≤maxLen
theorem SmallE.put(h:SmallE env)(s:ByteArray){p:Par}(hp:p.name.size≤maxLen):SmallE (env.put s p):=fun y q e=>by simp only[Env.put]at e;split at e;(·simp only[Option.some.injEq]at e;subst e;exact hp);·exact h y q e
theorem SmallE.cut(h:SmallE env)(s:ByteArray):SmallE (env.cut s):=fun y q e=>by simp only[Env.cut]at e;split at e;(·simp at e);·exact h y q e
theorem SmallE.get(h:SmallE env)(s:ByteArray):((env s).getD default).name.size≤maxLen:=by cases e:env s with|none=>exact Nat.zero_le _|some p=>exact h s p e
theorem zbw{n:Nat}(h:n≤400000):(tname n).size≤maxLen:=by have:=zhl n;unfold maxLen;omega
def TsSmall(ts:List Par):Prop:=∀j,(at' ts j).name.size≤maxLen
theorem TsSmall.snoc(h:TsSmall ts){p:Par}(hp:p.name.size≤maxLen):TsSmall (ts++[p]):=fun j=>by rcases Nat.lt_trichotomy j ts.length with hj|rfl|hj;(·(have:at' (ts++[p]) j=at' ts j:=by simp[at',List.getD_eq_getElem?_getD,List.getElem?_append_left hj]);rw[this];exact h j);(·(have:at' (ts++[p]) ts.length=p:=by simp[at']);rw[this];exact hp);·(have:at' (ts++[p]) j=default:=by simp only[at',List.getD_eq_getElem?_getD];rw[List.getElem?_eq_none (by simp;omega)];rfl);rw[this];exact Nat.zero_le _
theorem TsSmall.ty(h:TsSmall ts)(i:Nat)(b:Bool):TsSmall (setTy ts i b):=fun j=>by by_cases e:i=j;(·subst e;by_cases hi:i<ts.length;(·(have:at' (setTy ts i b) i=⟨(at' ts i).name,b⟩:=by simp[setTy,at',List.getD_eq_getElem?_getD,hi]);rw[this];exact h i);·(have:at' (setTy ts i b) i=default:=by simp only[at',setTy,List.getD_eq_getElem?_getD];rw[List.getElem?_eq_none (by simp;omega)];rfl);rw[this];exact Nat.zero_le _);·(have:at' (setTy ts i b) j=at' ts j:=by simp[setTy,at',List.getD_eq_getElem?_getD,e]);rw[this];exact h j
mutual
theorem zaN (lib:List Fn):∀ (n:Nd) (env:Env) (ts:List Par),SmallE env→TsSmall ts→ts.length+2 * sizeN n≤400000→
 (exprN lib n env ts).par.name.size≤maxLen∧SmallE (exprN lib n env ts).env∧TsSmall (exprN lib n env ts).ts
 | .mk k num name kids,env,ts,he,ht,hl=>by
   rw [sizeN] at hl
   unfold exprN
   split
   · exact ⟨he.get name,he,ht⟩
   · split
     · split
       · rename_i a b
         simp only [sizeL] at hl
         have la:=zaw lib a env ts
         have ha:=zaN lib a env ts he ht (by omega)
         have hb:=zaN lib b _ _ (ha.2.1.put name ha.1) ha.2.2 (by omega)
         exact ⟨hb.1,hb.2.1.cut name,hb.2.2⟩
       · exact ⟨Nat.zero_le _,he,ht⟩
     · split
       · split
         · rename_i c a b
           simp only [sizeL] at hl
           have lc:=zaw lib c env ts
           have hc:=zaN lib c env ts he ht (by omega)
           have la:=zaw lib a (exprN lib c env ts).env ((exprN lib c env ts).ts ++ [⟨tname (exprN lib c env ts).ts.length,false⟩])
           simp only [List.length_append,List.length_singleton] at la
           have ha:=zaN lib a (exprN lib c env ts).env ((exprN lib c env ts).ts ++ [⟨tname (exprN lib c env ts).ts.length,false⟩]) hc.2.1 (hc.2.2.snoc (zbw (by omega))) (by simp only [List.length_append,List.length_singleton];omega)
           have hb:=zaN lib b _ _ ha.2.1 (ha.2.2.ty (exprN lib c env ts).ts.length (exprN lib a (exprN lib c env ts).env ((exprN lib c env ts).ts ++ [⟨tname (exprN lib c env ts).ts.length,false⟩])).par.list) (by rw [zaR];omega)
           exact ⟨hb.2.2.ty _ _ _,hb.2.1,hb.2.2.ty _ _⟩
         · exact ⟨Nat.zero_le _,he,ht⟩
       · have h:=zbP lib (decide (k=85)) kids env ts
         have hs:=zck lib (decide (k=85)) kids env ts he ht (by omega)
         exact ⟨zbw (by omega),hs.1,hs.2.1.snoc (zbw (by omega))⟩
theorem zck (lib:List Fn) (call:Bool):∀ (l:List Nd) (env:Env) (ts:List Par),SmallE env→TsSmall ts→ts.length+2 * sizeL l≤400000→
 SmallE (argsN lib call l env ts).env∧TsSmall (argsN lib call l env ts).ts∧∀ s ∈ (argsN lib call l env ts).args,s.size≤maxLen
 | [],env,ts,he,ht,hl=>by rw [argsN];exact ⟨he,ht,by simp⟩
 | n :: r,env,ts,he,ht,hl=>by
   rw [sizeL] at hl
   rw [argsN]
   have hn:=zaw lib n env ts
   have hs:=zaN lib n env ts he ht (by omega)
   split
   · have hr:=zck lib call r _ _ hs.2.1 (hs.2.2.snoc (p:=⟨tname (exprN lib n env ts).ts.length,(exprN lib n env ts).par.list⟩) (zbw (by omega))) (by simp only [List.length_append,List.length_singleton];omega)
     refine ⟨hr.1,hr.2.1,fun s h=>?_⟩
     rcases List.mem_cons.1 h with rfl|h
     · exact zbw (by omega)
     · exact hr.2.2 s h
   · have hr:=zck lib call r _ _ hs.2.1 hs.2.2 (by omega)
     refine ⟨hr.1,hr.2.1,fun s h=>?_⟩
     rcases List.mem_cons.1 h with rfl|h
     · exact hs.1
     · exact hr.2.2 s h
end
theorem MP:SmapT Tryz.prog 128 9 71 (.agg #[.string ByteArray.empty,.bool false]):=⟨Tryz.underlying128,Tryz.underlying9,fun _=>by kernel_rfl⟩
mutual
def knownN (lib:List Fn):Nd→Bool
 | .mk k num name kids=>(!decide (k=85) && (!decide (k=84) && !decide (k=83))) && knownL lib kids
def knownL (lib:List Fn):List Nd→Bool
 | []=>true
 | n :: r=>knownN lib n && knownL lib r
end
theorem zeu(lib:List Fn):∀l:List Nd,knownL lib l=true↔∀j,j<l.length→knownN lib (at' l j)=true|[]=>by simp[knownL]|n::r=>by rw[knownL,Bool.and_eq_true,zeu lib r];constructor;(·rintro⟨h1,h2⟩j hj;match j with|0=>exact h1|j+1=>exact h2 j (by simpa using hj));·intro h;exact⟨h 0 (by simp),fun j hj=>h (j+1) (by simpa using hj)⟩
theorem zjj{n:Nd}(h:knownN lib n=true){j:Nat}(hj:j<n.kids.length):knownN lib (at' n.kids j)=true:=by cases n with|mk k num name kids=>rw[knownN,Bool.and_eq_true]at h;exact(zeu lib _).1 h.2 j hj
theorem zhS{n:Nd}(h:knownN lib n=true):n.kind≠84∧n.kind≠83∧n.kind≠85:=by cases n with|mk k num name kids=>rw[knownN,Bool.and_eq_true]at h;have h1:=h.1;simp only[Nd.kind];simp at h1;exact⟨h1.2.1,h1.2.2,h1.1⟩
def XOk(m:Nat):Prop:=∀(C:VC)(n:Nd)(v:Value)(pb po:Nat)(A:Nat→Prop)(w:World)(tv bv c4:Value)(ts:List Par)(bs:List Bd)(env:Env)(N:Nat),sizeN n≤m→formedN n=true→knownN C.lib n=true→NdAt A w v n→St C pb po A w tv bv c4 ts bs env N→SmallE env→TsSmall ts→ts.length+2*sizeN n≤100000→bs.length+2*sizeN n≤100000→N+2*sizeN n≤100000→Calls Tryz.prog 75 #[.pointer (some ⟨C.bV,0,none⟩),v,.pointer (some ⟨pb,po,none⟩)] w (XPost C pb po A w tv bv c4 bs (N+2*sizeN n) (exprN C.lib n env ts))
theorem zgj(lib:List Fn)(n:Nd)(env:Env)(ts:List Par)(h:n.kind=81):exprN lib n env ts=⟨ts,[],(env n.name).getD default,env⟩:=by cases n with|mk k num name kids=>simp only[Nd.kind]at h;unfold exprN;rw[if_pos h];rfl
theorem Locs.two(hst:St C pb po A w tv bv c4 ts bs env N)(a b:Obj):Locs C pb A tv bv ((w.alloc a).alloc b) [(w.heap.size+1,b),(w.heap.size,a)]:=by have:=(Locs.nil.alloc hst a).alloc (hst.below ((Below.refl _ _).alloc (Nat.le_refl _) _)) b;simpa using this
theorem ziS(env:Env)(s:ByteArray):(if false then Value.tuple #[((env s).map parV).getD (.agg #[.string ByteArray.empty,.bool false]),.bool ((env s).map parV).isSome]else((env s).map parV).getD (.agg #[.string ByteArray.empty,.bool false]))=.agg #[.string ((env s).getD default).name,.bool ((env s).getD default).list]:=by cases env s<;>rfl
theorem zky(C:VC)(n:Nd)(v:Value)(pb po:Nat)(A:Nat→Prop)(w:World)(tv bv c4:Value)(ts:List Par)(bs:List Bd)(env:Env)(N:Nat)(h81:n.kind=81)(hv:NdAt A w v n)(hst:St C pb po A w tv bv c4 ts bs env N):Calls Tryz.prog 75 #[.pointer (some ⟨C.bV,0,none⟩),v,.pointer (some ⟨pb,po,none⟩)] w (XPost C pb po A w tv bv c4 bs (N+2*sizeN n) (exprN C.lib n env ts)):=by
 obtain⟨hok,hlen,ka,kc,rfl,hk⟩:=hv.open;have HEQ:=Lib.hid (zgj C.lib n env ts h81);have d81:(n.kind==81)=true:=by simpa using h81
 have hs:=hok.2.2;have HL:=Lib.hid (Locs.two hst (.cells #[.int .u8 n.kind,.int .i64 n.num,.string n.name,.slice ka n.kids.length kc] 30) (.cells #[.string ⟨#[]⟩,.bool false] 71));have hA:Below w.heap.size w ((w.alloc (.cells #[.int .u8 n.kind,.int .i64 n.num,.string n.name,.slice ka n.kids.length kc] 30)).alloc (.cells #[.string ⟨#[]⟩,.bool false] 71)):=((Below.refl _ _).alloc (Nat.le_refl _) _).alloc (by simp) _;have hS0:=hst.below hA;have v1:=zae (VSt.vis hS0) 1 rfl;have q2:=zae (HL.out.blk (g:=w.heap.size) (List.mem_cons_of_mem _ (List.mem_cons_self ..))) 2 rfl;have HST:=Lib.hid hst;have HS0:=Lib.hid hS0;clear h81 hst hS0;go_enter Tryz.func75,Tryz.ntmps75;go_wp2;generalize((w.alloc (.cells #[.int .u8 n.kind,.int .i64 n.num,.string n.name,.slice ka n.kids.length kc] 30)).alloc (.cells #[.string ⟨#[]⟩,.bool false] 71))=W at*;have hD:Below W.heap.size W W.drew:=zak (Below.refl _ _) 1;have HM:=Lib.hid (VSt.map (HS0.out.below hD));have hR:=HL.out.blk (List.mem_cons_self ..);have r0:W.cell? ⟨w.heap.size+1,0,none⟩=some (.string ⟨#[]⟩):=zae hR 0 rfl;have r1:W.cell? ⟨w.heap.size+1,1,none⟩=some (.bool false):=zae hR 1 rfl;have f0:=unfrozen hR 0;have f1:=unfrozen hR 1;clear hR;go_still_tail 6,(by kernel_rfl);change wpList _ _ _ _ _ W.drew;have HD:=Lib.hid hD;clear hD;go_wp2_with(refine zbE MP rfl (.tmp 20) (.tmp 22) false rfl rfl rfl (by exact HM.out) hs (ziS env n.name) ?_);have hL2:=HL.out.below HD.out;have hL3:=(hL2.set 0 (.string ((env n.name).getD default).name) (by simp)).set 1 (.bool ((env n.name).getD default).list) (by simp);have hS2:=((HS0.out.below HD.out).setLoc hL2 (List.mem_cons_self ..) 0 (.string ((env n.name).getD default).name)).setLoc (hL2.set 0 _ (by simp)) (List.mem_cons_self ..) 1 (.bool ((env n.name).getD default).list);(try simp only[Exit.inBlock,Exit.then]);refine bodyPost_ret (results_cell_row (P:=Tryz.prog) rfl _ _ (w.heap.size+1) _ _ _ _ rfl (hL3.blk (List.mem_cons_self ..)) Tryz.underlying71 rfl (by kernel_rfl)) rfl ?_;rw[HEQ.out];refine⟨rfl,A,tv,bv,c4,?_,?_⟩;·rw[List.append_nil];exact hS2.mono (by omega)
 ·exact(((Step.refl C pb A w tv bv c4).below hA).below HD.out).young ((zaf _ (w.heap.size+1) 0 _).same (zaf _ (w.heap.size+1) 1 _)) (fun k e=>by omega)
theorem KidsAt.later{kids:List Nd}(h:KidsAt A w v kids)(hs:Stays A A' w w'){j:Nat}(hj:j<kids.length):∃b off cap ka kc,v=.slice (some ⟨b,off,none⟩) kids.length cap∧w'.cell? ⟨b,off+j*4,none⟩=some (.int .u8 (at' kids j).kind)∧w'.cell? ⟨b,off+j*4+1,none⟩=some (.int .i64 (at' kids j).num)∧w'.cell? ⟨b,off+j*4+2,none⟩=some (.string (at' kids j).name)∧w'.cell? ⟨b,off+j*4+3,none⟩=some (.slice ka (at' kids j).kids.length kc)∧NdAt A' w' (.agg #[.int .u8 (at' kids j).kind,.int .i64 (at' kids j).num,.string (at' kids j).name,.slice ka (at' kids j).kids.length kc]) (at' kids j):=by obtain⟨b,off,cap,ka,kc,h1,_,_,_,h2,h3,h4,h5,h6⟩:=(h.stays hs).at hj;exact⟨b,off,cap,ka,kc,h1,h2,h3,h4,h5,h6⟩
theorem zex(lib:List Fn):∀(n i:Nat),(validFrom lib n i).2=0→∀j,i≤j→j<i+n→fnE lib j=0|0,i,_,j,h1,h2=>by omega|n+1,i,h,j,h1,h2=>by rw[validFrom]at h;by_cases he:fnE lib i=0;(·rw[if_neg (by simpa using he)]at h;by_cases hj:j=i;(·subst hj;exact he);·exact zex lib n (i+1) h j (by omega) (by omega));·rw[if_pos he]at h;exact absurd h he
structure FnOk (lib:List Fn) (i:Nat):Prop where
 lt:i < 30
 name:nameB (at' lib i).name=true
 first:¬ findF lib (at' lib i).name < i
 pars:parsE (at' lib i).params=0
 form:formedN (at' lib i).body=true
 depth:depthN (at' lib i).body≤80
 size:sizeN (at' lib i).body≤2000
 check:(checkN lib (at' lib i).body (parsV (at' lib i).params)).2=0
 list:(checkN lib (at' lib i).body (parsV (at' lib i).params)).1=(at' lib i).list
theorem zne{i:Nat}(h:fnE lib i=0):FnOk lib i:=by
 unfold fnE at h;simp only[]at h;by_cases h1:30≤i;·rw[if_pos h1]at h;omega
 rw[if_neg h1]at h;by_cases h2:(!nameB (at' lib i).name)=true;·rw[if_pos h2]at h;omega
 rw[if_neg h2]at h;by_cases h3:findF lib (at' lib i).name<i;·rw[if_pos h3]at h;omega
 rw[if_neg h3]at h;by_cases h4:¬parsE (at' lib i).params=0;·rw[if_pos h4]at h;exact absurd h h4
 rw[if_neg h4]at h;have h4:=Classical.not_not.1 h4;by_cases h5:(!formedN (at' lib i).body)=true;·rw[if_pos h5]at h;omega
 rw[if_neg h5]at h;by_cases h6:80<depthN (at' lib i).body;·rw[if_pos h6]at h;omega
 rw[if_neg h6]at h;by_cases h7:2000<sizeN (at' lib i).body;·rw[if_pos h7]at h;omega
 rw[if_neg h7]at h;by_cases h8:¬(checkN lib (at' lib i).body (parsV (at' lib i).params)).2=0;·rw[if_pos h8]at h;exact absurd h h8
 rw[if_neg h8]at h;have h8:=Classical.not_not.1 h8;by_cases h9:¬(checkN lib (at' lib i).body (parsV (at' lib i).params)).1=(at' lib i).list;·rw[if_pos h9]at h;omega
 have h9:=Classical.not_not.1 h9;exact⟨by omega,by simpa using h2,h3,h4,by simpa using h5,by omega,by omega,h8,h9⟩
theorem zcx(h:(validE lib).2=0){i:Nat}(hi:i<lib.length):FnOk lib i:=zne (zex lib lib.length 0 h i (Nat.zero_le _) (by omega))
theorem zdX{l:List Par}(h:parsE l=0):l.length≤8:=by
 unfold parsE at h;by_cases h8:8<l.length;·rw[if_pos h8]at h;omega
 ·omega
theorem TStr:RowT Tryz.prog 23 9 (.string ByteArray.empty) 1 16:=⟨Tryz.underlying23,by kernel_rfl⟩
structure ArgsRow (C:VC) (pb:Nat) (A:Nat→Prop) (tv bv:Value) (base:Nat) (w:World) (av:Value) (args:List ByteArray):Prop where
 own:w.ownsRow base 9 1 av args.length (args.map Value.string)
 small:∀ s ∈ args,s.size≤maxLen
 apart:∀ k,av.ownBlock=some k→¬ A k∧¬ Mu C pb tv bv k
theorem ArgsRow.nil(C:VC)(pb:Nat)(A:Nat→Prop)(tv bv:Value)(base:Nat)(w:World):ArgsRow C pb A tv bv base w (.slice none 0 0) []:=⟨World.ownsRow_nil _ _ _ _,fun _ h=>by simp at h,fun k h=>by simp[Value.ownBlock]at h⟩
theorem ArgsRow.form(h:ArgsRow C pb A tv bv base w av args):∃a c,av=.slice a args.length c:=zas h.own
theorem ArgsRow.lt(h:ArgsRow C pb A tv bv base w av args)(e:av.ownBlock=some k):base≤k∧k<w.heap.size:=h.own.lt k e
theorem ArgsRow.step{tv' bv' c4':Value}(h:ArgsRow C pb A tv bv base w av args)(hs:Step C pb A w tv bv c4 A' w' tv' bv' c4'):ArgsRow C pb A' tv' bv' base w' av args:=by
 refine⟨zau h.own hs.keeps (fun k e=>(h.apart k e).2),h.small,fun k e=>⟨fun a=>?_,fun m=>?_⟩⟩;·rcases hs.new k a with a|a;(·exact(h.apart k e).1 a);·have:=(h.lt e).2;omega
 ·rcases Mut.new m hs.ntv hs.nbv with a|a;(·exact(h.apart k e).2 a);·have:=(h.lt e).2;omega
theorem ArgsRow.keeps(h:ArgsRow C pb A tv bv base w av args)(hk:Keeps w w' S)(hS:∀k,av.ownBlock=some k→¬S k):ArgsRow C pb A tv bv base w' av args:=⟨zau h.own hk hS,h.small,h.apart⟩
theorem ArgsRow.below(h:ArgsRow C pb A tv bv base w av args)(hb:Below w.heap.size w w'):ArgsRow C pb A tv bv base w' av args:=h.keeps (Keeps.of_below (fun _=>False) hb) (fun _ _ e=>e)
theorem ArgsRow.shut(h:ArgsRow C pb A tv bv base w av args)(hv:∀k,av.ownBlock=some k→A' k)(hl:args.length≤maxLen):StrsAt A' w av args:=by
 refine⟨fun j i=>.string (at' args j),⟨hl,?_⟩,fun j hj=>⟨rfl,h.small _ (zaz hj)⟩⟩;obtain⟨h0,⟨rfl,h1⟩|⟨g,cap,cur,rfl,hg,hh,hn,hm,hc,ht⟩⟩:=h.own;·exact⟨none,0,by rw[h1],by omega,fun _=>rfl,fun h=>by omega⟩
 ·refine⟨_,cap,rfl,hn,nofun,fun hp=>⟨g,0,rfl,by rw[Array.getElem?_eq_some_iff]at hh;exact hh.1,hv g rfl,fun j hj i hi=>?_⟩⟩;(obtain rfl:i=0:=by omega);(have e:(0:Nat)+j*1+0=j:=by omega);rw[e];simp only[World.cell?,hh];(have hx2:(args.map Value.string)[j]?=cur[j]?:=by rw[←ht,List.getElem?_take,if_pos (by omega)];simp);rw[←hx2,List.getElem?_map,List.getElem?_eq_getElem hj,zam hj];rfl
theorem zin{g2 be:Nat}{wB:World}{v':Value}{s:ByteArray}{s0 s1 s2 s3 s4 s6 s7:Value}(hS:St C pb po A1 w1 tv1 bv1 c41 ts bs env N)(hT:Step C pb A w tv bv c4 A1 w1 tv1 bv1 c41)(hL:Locs C pb A1 tv1 bv1 w1 ((g2,.cells #[s0,s1,s2,s3,s4,av,s6,s7] be (0,0))::L))(hR:ArgsRow C pb A1 tv1 bv1 base w1 av args)(hLg:∀p∈L,p.1≠g2∧p.1<base)(hg2:g2<base)(hg2w:w.heap.size≤g2)(hsz:base≤w1.heap.size)(hs:s.size≤maxLen)(hB:Below w1.heap.size w1 wB)(hown:w2.ownsRow base 9 1 v' (args.length+1) (args.map Value.string++[.string s]))(hg:wB.grownBy w2 av.ownBlock)(hn:NewOr wB av v'):St C pb po A1 (w2.setCell ⟨g2,5,none⟩ v') tv1 bv1 c41 ts bs env N∧Step C pb A w tv bv c4 A1 (w2.setCell ⟨g2,5,none⟩ v') tv1 bv1 c41∧Locs C pb A1 tv1 bv1 (w2.setCell ⟨g2,5,none⟩ v') ((g2,.cells #[s0,s1,s2,s3,s4,v',s6,s7] be (0,0))::L)∧ArgsRow C pb A1 tv1 bv1 base (w2.setCell ⟨g2,5,none⟩ v') v' (args++[s]):=by
 have hk:Keeps w1 w2 (fun k=>av.ownBlock=some k):=(Keeps.of_below _ hB).trans (Keeps.of_grown (S:=fun k=>av.ownBlock=some k) hg (fun k e=>.inl e)) (fun k e=>.inl e);have hn':NewOr w1 av v':=fun k e=>by rcases hn k e with e|e;(·exact .inl e);·exact .inr (Nat.le_trans hB.size e)
 have hL2:Locs C pb A1 tv1 bv1 w2 ((g2,.cells #[s0,s1,s2,s3,s4,av,s6,s7] be (0,0))::L):=hL.keeps hk (fun p hp e=>by have:=(hR.lt e).1;rcases List.mem_cons.1 hp with rfl|hp;(·simp only at this;omega);·have:=(hLg p hp).2;omega);have hS2:St C pb po A1 w2 tv1 bv1 c41 ts bs env N:=hS.young hk (fun k a e=>(hR.apart k e).1 a) (fun k m e=>(hR.apart k e).2 m);have hvb:∀k,v'.ownBlock=some k→base≤k:=fun k e=>(hown.lt k e).1;refine⟨hS2.setLoc hL2 (List.mem_cons_self ..) 5 v',?_,?_,?_⟩;·refine(hT.young hk (fun k e=>?_)).young (zaf w2 g2 5 v') (fun k e=>by omega);have:=(hR.lt e).1;omega
 ·exact hL2.set 5 v' (fun p hp=>(hLg p hp).1)
 ·(have h1:ArgsRow C pb A1 tv1 bv1 base w2 v' (args++[s]):=by refine⟨by rw[List.length_append,List.map_append];exact hown,fun x hx=>?_,fun k e=>?_⟩;(·rcases List.mem_append.1 hx with hx|hx;(·exact hR.small x hx);·simp at hx;subst hx;exact hs);·rcases hn' k e with e|e;(·exact hR.apart k e);·exact⟨fun a=>by have:=hS.alt a;omega,fun m=>by have:=hS.mlt m;omega⟩);exact h1.keeps (zaf w2 g2 5 v') (fun k e e2=>by have:=hvb k e;omega)
def argStep(lib:List Fn)(call:Bool)(r:YR)(n:Nd):YR:=let x:=exprN lib n r.env r.ts;if call&&namesN (sizeN n) n then⟨x.ts++[⟨tname x.ts.length,x.par.list⟩],r.bs++x.bs++[varB (tname x.ts.length) x.par.list x.par.name],r.args++[tname x.ts.length],x.env⟩else⟨x.ts,r.bs++x.bs,r.args++[x.par.name],x.env⟩
theorem zdF(lib:List Fn)(call:Bool)(n:Nd):∀(l:List Nd)(env:Env)(ts:List Par),argsN lib call (l++[n]) env ts=argStep lib call (argsN lib call l env ts) n|[],env,ts=>by rw[List.nil_append,argsN,argsN,argStep];simp only[];split;(·rw[argsN];simp);·rw[argsN];simp|m::l,env,ts=>by rw[List.cons_append,argsN,argsN];simp only[];split;(·rw[zdF lib call n l,argStep,argStep];simp only[];split<;>simp);·rw[zdF lib call n l,argStep,argStep];simp only[];split<;>simp
theorem zio(lib:List Fn)(call:Bool){l:List Nd}{q:Nat}(h:q<l.length)(env:Env)(ts:List Par):argsN lib call (l.take (q+1)) env ts=argStep lib call (argsN lib call (l.take q) env ts) (at' l q):=by rw[List.take_add_one,List.getElem?_eq_getElem h,Option.toList_some,zdF,zam h]
theorem zcN(lib:List Fn)(call:Bool):∀(l:List Nd)(env:Env)(ts:List Par),(argsN lib call l env ts).args.length=l.length|[],env,ts=>by rw[argsN];rfl|n::r,env,ts=>by rw[argsN];simp only[];split;(·simp[zcN lib call r]);·simp[zcN lib call r]
theorem zlZ(C:VC)(pb po:Nat)(A:Nat→Prop)(w:World)(tv bv c4:Value)(ts:List Par)(bs:List Bd)(env:Env)(N:Nat)(to0 name:ByteArray)(l0 list:Bool)(op num:Int)(av hv ev:Value)(args:List ByteArray)(thn els:List Bd)(hS:St C pb po A w tv bv c4 ts bs env N)(ha:StrsAt A w av args)(ht:BdsAt A w hv thn)(he:BdsAt A w ev els)(hop:0≤op∧op≤255)(hnum:In64 num)(hname:name.size≤maxLen)(hl:ts.length<200000)(hb:bs.length<200000):Calls Tryz.prog 111 #[.pointer (some ⟨C.bV,0,none⟩),.agg #[.string to0,.bool l0,.int .u8 op,.int .i64 num,.string name,av,hv,ev],.bool list,.pointer (some ⟨pb,po,none⟩)] w fun e w'=>e=.returned (.agg #[.string (tname ts.length),.bool list])∧∃A' tv' bv' c4',St C pb po A' w' tv' bv' c4' (ts++[⟨tname ts.length,list⟩]) (bs++[.mk (tname ts.length) list op num name args thn els]) env N∧Step C pb A w tv bv c4 A' w' tv' bv' c4':=by refine(zkf A w C.bV C.bo C.bm pb po N C.c0 C.c1 C.c2 c4 C.c5 tv bv C.lv C.lib ts bs env to0 name l0 list op num av hv ev args thn els hS ha ht he hop hnum hname hl hb).mono ?_;rintro e w'⟨rfl,A',tv',bv',c4',h1,h2,h3,h4,h5,h6,h7⟩;exact⟨rfl,A',tv',bv',c4',h1,h2,h3,h4,h5,h6,h7⟩
theorem zhC(lib:List Fn)(n:Nd)(env:Env)(ts:List Par)(h81:n.kind≠81)(h84:n.kind≠84)(h83:n.kind≠83)(h85:n.kind≠85):exprN lib n env ts=⟨(argsN lib false n.kids env ts).ts++[⟨tname (argsN lib false n.kids env ts).ts.length,opList n.kind⟩],(argsN lib false n.kids env ts).bs++[.mk (tname (argsN lib false n.kids env ts).ts.length) (opList n.kind) n.kind n.num ByteArray.empty (argsN lib false n.kids env ts).args [] []],⟨tname (argsN lib false n.kids env ts).ts.length,opList n.kind⟩,(argsN lib false n.kids env ts).env⟩:=by cases n with|mk k num name kids=>simp only[Nd.kind]at h81 h84 h83 h85;unfold exprN;rw[if_neg h81,if_neg h84,if_neg h83];(have e:decide (k=85)=false:=by simpa using h85);simp only[e,if_neg h85];rfl
theorem Locs.three(hst:St C pb po A w tv bv c4 ts bs env N)(a b c:Obj):Locs C pb A tv bv (((w.alloc a).alloc b).alloc c) [(w.heap.size+1+1,c),(w.heap.size+1,b),(w.heap.size,a)]:=by have:=(Locs.two hst a b).alloc (hst.below (((Below.refl _ _).alloc (Nat.le_refl _) _).alloc (by simp) _)) c;simpa using this
def ALoop(C:VC)(pb po:Nat)(A:Nat→Prop)(w:World)(tv bv c4:Value)(ts:List Par)(bs:List Bd)(env:Env)(N:Nat)(call:Bool)(n:Nd)(nv s2 s3 s4:Value)(q:Nat)(wr:World):Prop:=q≤n.kids.length∧∃Aq tvq bvq c4q av,St C pb po Aq wr tvq bvq c4q (argsN C.lib call (n.kids.take q) env ts).ts (bs++(argsN C.lib call (n.kids.take q) env ts).bs) (argsN C.lib call (n.kids.take q) env ts).env (N+2*sizeL (n.kids.take q))∧Step C pb A w tv bv c4 Aq wr tvq bvq c4q∧Locs C pb Aq tvq bvq wr [(w.heap.size+1+1,.cells #[.string ⟨#[]⟩,.bool false,s2,s3,s4,av,.slice none 0 0,.slice none 0 0] 141),(w.heap.size+1,.cells #[.string ⟨#[]⟩,.bool false] 71),(w.heap.size,.cells #[.int .u8 n.kind,.int .i64 n.num,.string n.name,nv] 30)]∧ArgsRow C pb Aq tvq bvq (w.heap.size+1+1+1) wr av (argsN C.lib call (n.kids.take q) env ts).args
theorem zmC(w:World)(u:Value)(e:TypeId):∀j x,[u][j]?=some x→(w.alloc (.cells #[u] e)).cell? ((⟨w.heap.size,0,none⟩:Addr).add j)=some x:=by intro j x hj;match j,hj with|0,hj=>simp at hj;subst hj;simp[Addr.add]
theorem zkd{g2 be:Nat}{wB:World}(hL:Locs C pb A1 tv1 bv1 w1 ((g2,.cells arr be (0,0))::L))(hR:ArgsRow C pb A1 tv1 bv1 base w1 av args)(hg2:g2<base)(hB:Below w1.heap.size w1 wB)(hg:wB.grownBy w2 av.ownBlock):w2.heap[g2]?=some (.cells arr be (0,0)):=by have hk:Keeps w1 w2 (fun k=>av.ownBlock=some k):=(Keeps.of_below _ hB).trans (Keeps.of_grown (S:=fun k=>av.ownBlock=some k) hg (fun k e=>.inl e)) (fun k e=>.inl e);exact(hk.block g2 (hL.lt (p:=(g2,.cells arr be (0,0))) (List.mem_cons_self ..)) (fun e=>by have:=(hR.lt e).1;omega)).trans (hL.blk (List.mem_cons_self ..))
theorem zep(a b:Value)(w:World):(Instr.field 71 (.agg #[a,b]) 0).run Tryz.prog w=.ok a w:=by kernel_rfl
theorem zda(k:Int):opList k=((k==86)||((k==87)||(k==89))):=rfl
theorem zht(lib:List Fn)(r:YR)(n:Nd):argStep lib false r n=⟨(exprN lib n r.env r.ts).ts,r.bs++(exprN lib n r.env r.ts).bs,r.args++[(exprN lib n r.env r.ts).par.name],(exprN lib n r.env r.ts).env⟩:=by simp[argStep]
theorem zjJ{w0:World}{tv0 bv0 c40:Value}{A0:Nat→Prop}(hS:St C pb po A w tv bv c4 ts bs env N)(hT:Step C pb A0 w0 tv0 bv0 c40 A w tv bv c4)(hR:ArgsRow C pb A tv bv base w av args)(hb:w0.heap.size≤base)(hl:args.length≤maxLen):St C pb po (fun k=>A k∨av.ownBlock=some k) w tv bv c4 ts bs env N∧Step C pb A0 w0 tv0 bv0 c40 (fun k=>A k∨av.ownBlock=some k) w tv bv c4∧StrsAt (fun k=>A k∨av.ownBlock=some k) w av args∧(∀L,Locs C pb A tv bv w L→(∀p∈L,p.1<base)→Locs C pb (fun k=>A k∨av.ownBlock=some k) tv bv w L):=by
 refine⟨hS.more (fun k a=>.inl a) (fun k a=>?_),hT.more (fun k a=>.inl a) (fun k a=>?_),hR.shut (fun k e=>.inr e) hl,fun L hL hp p hm=>?_⟩;·rcases a with a|a;(·exact .inl a);·exact .inr ⟨(hR.lt a).2,(hR.apart k a).2⟩
 ·rcases a with a|a;(·exact .inl a);·exact .inr (Nat.le_trans hb (hR.lt a).1)
 ·obtain⟨h1,h2,h3⟩:=hL p hm;refine⟨h1,fun a=>?_,h3⟩;rcases a with a|a;(·exact h2 a);·have:=(hR.lt a).1;have:=hp p hm;omega
theorem zmh(m:Nat)(ih:XOk m)(C:VC)(n:Nd)(v:Value)(pb po:Nat)(A:Nat→Prop)(w:World)(tv bv c4:Value)(ts:List Par)(bs:List Bd)(env:Env)(N:Nat)(h81:n.kind≠81)(h84:n.kind≠84)(h83:n.kind≠83)(h85:n.kind≠85)(hm:sizeN n≤m+1)(hform:formedN n=true)(hkn:knownN C.lib n=true)(hv:NdAt A w v n)(hst:St C pb po A w tv bv c4 ts bs env N)(hse:SmallE env)(hts:TsSmall ts)(hl1:ts.length+2*sizeN n≤100000)(hl2:bs.length+2*sizeN n≤100000)(hl3:N+2*sizeN n≤100000):Calls Tryz.prog 75 #[.pointer (some ⟨C.bV,0,none⟩),v,.pointer (some ⟨pb,po,none⟩)] w (XPost C pb po A w tv bv c4 bs (N+2*sizeN n) (exprN C.lib n env ts)):=by
 obtain⟨hok,hlen,ka,kc,rfl,hk⟩:=hv.open;unfold maxLen at hlen;have HEQ:=Lib.hid (zhC C.lib n env ts h81 h84 h83 h85);have d81:(n.kind==81)=false:=by simpa using h81
 have d84:(n.kind==84)=false:=by simpa using h84
 have d83:(n.kind==83)=false:=by simpa using h83
 have d85:(n.kind==85)=false:=by simpa using h85
 have hsz:=zaQ n;have hkl:=zbT n.kids;have hs:=hok.2.2;have hL0:=Locs.three hst (.cells #[.int .u8 n.kind,.int .i64 n.num,.string n.name,.slice ka n.kids.length kc] 30) (.cells #[.string ⟨#[]⟩,.bool false] 71) (.cells #[.string ⟨#[]⟩,.bool false,.int .u8 n.kind,.int .i64 n.num,.string ⟨#[]⟩,.slice none 0 0,.slice none 0 0,.slice none 0 0] 141);have hA:Below w.heap.size w (((w.alloc (.cells #[.int .u8 n.kind,.int .i64 n.num,.string n.name,.slice ka n.kids.length kc] 30)).alloc (.cells #[.string ⟨#[]⟩,.bool false] 71)).alloc (.cells #[.string ⟨#[]⟩,.bool false,.int .u8 n.kind,.int .i64 n.num,.string ⟨#[]⟩,.slice none 0 0,.slice none 0 0,.slice none 0 0] 141)):=(((Below.refl _ _).alloc (Nat.le_refl _) _).alloc (by simp) _).alloc (by simp;omega) _;have hS0:=hst.below hA;have hT0:=(Step.refl C pb A w tv bv c4).below hA;have HR:Hid (ALoop C pb po A w tv bv c4 ts bs env N false n (.slice ka n.kids.length kc) (.int .u8 n.kind) (.int .i64 n.num) (.string ⟨#[]⟩) 0 (((w.alloc (.cells #[.int .u8 n.kind,.int .i64 n.num,.string n.name,.slice ka n.kids.length kc] 30)).alloc (.cells #[.string ⟨#[]⟩,.bool false] 71)).alloc (.cells #[.string ⟨#[]⟩,.bool false,.int .u8 n.kind,.int .i64 n.num,.string ⟨#[]⟩,.slice none 0 0,.slice none 0 0,.slice none 0 0] 141))):=Lib.hid ⟨Nat.zero_le _,A,tv,bv,c4,.slice none 0 0,by simpa[argsN,sizeL]using hS0,hT0,hL0,ArgsRow.nil ..⟩;have HST:=Lib.hid hst;have HK:=Lib.hid hk;have HF:=Lib.hid hform;have HKN:=Lib.hid hkn;have HSZ:=Lib.hid hsz;clear hst hS0 h84 h81 h83 h85 hk hform hkn hsz hL0 hT0 hA;go_enter Tryz.func75,Tryz.ntmps75;go_wp2;generalize(((w.alloc (.cells #[.int .u8 n.kind,.int .i64 n.num,.string n.name,.slice ka n.kids.length kc] 30)).alloc (.cells #[.string ⟨#[]⟩,.bool false] 71)).alloc (.cells #[.string ⟨#[]⟩,.bool false,.int .u8 n.kind,.int .i64 n.num,.string ⟨#[]⟩,.slice none 0 0,.slice none 0 0,.slice none 0 0] 141))=W at*;go_loopw[74](fun i wr=>∃q:Nat,i=.int .i64 q∧ALoop C pb po A w tv bv c4 ts bs env N false n (.slice ka n.kids.length kc) (.int .u8 n.kind) (.int .i64 n.num) (.string ⟨#[]⟩) q wr)(fun i _=>n.kids.length-(intOf i).toNat);case atStart=>exact⟨0,rfl,HR.out⟩
 case round=>clear HR;obtain⟨q,rfl,hq,Aq,tvq,bvq,c4q,av,hS,hT,hL,hR⟩:=hrel;by_cases hlt:q<n.kids.length;(·obtain⟨b,off,cap,kaq,kcq,he,q0,q1,q2,q3,hnd⟩:=HK.out.later (HST.out.stays hT) hlt;simp only[Value.slice.injEq]at he;obtain⟨rfl,-,rfl⟩:=he;have HST1:Hid (argsN C.lib false (n.kids.take (q+1)) env ts=_):=Lib.hid ((zio C.lib false hlt env ts).trans (zht _ _ _));have hsl:=zat n.kids (q+1);have HSL:=Lib.hid (zaZ n.kids q hlt);have hy:=zbP C.lib false (n.kids.take q) env ts;have hal:=zcN C.lib false (n.kids.take q) env ts;rw[List.length_take,Nat.min_eq_left hq]at hal;have hsz:=HSZ.out;have hys:=zck C.lib false (n.kids.take q) env ts hse hts (by have:=HSL.out;omega);generalize argsN C.lib false (n.kids.take q) env ts=Y at*;have hA2:Below wr.heap.size wr (wr.alloc (.cells #[.int .u8 (at' n.kids q).kind,.int .i64 (at' n.kids q).num,.string (at' n.kids q).name,.slice kaq (at' n.kids q).kids.length kcq] 30)).drew:=zak ((Below.refl _ _).alloc (Nat.le_refl _) _) 1;have hS2:=hS.below hA2;have hT2:=hT.below hA2;have hL2:=hL.below hA2;have hR2:=hR.below hA2;have p5:(wr.alloc (.cells #[.int .u8 (at' n.kids q).kind,.int .i64 (at' n.kids q).num,.string (at' n.kids q).name,.slice kaq (at' n.kids q).kids.length kcq] 30)).cell? ⟨w.heap.size+1+1,5,none⟩=some av:=zae ((hL.below ((Below.refl _ _).alloc (Nat.le_refl _) _)).blk (List.mem_cons_self ..)) 5 rfl;have hx:=zaw C.lib (at' n.kids q) Y.env Y.ts;have hxs:=zaN C.lib (at' n.kids q) Y.env Y.ts hys.1 hys.2.1 (by have:=HSL.out;omega);have HCX:=Lib.hid (ih C (at' n.kids q) _ pb po Aq _ tvq bvq c4q Y.ts (bs++Y.bs) Y.env _ (by have:=zaV n q hlt;omega) (zco HF.out hlt) (zjj HKN.out hlt) (hnd.stays (Stays.of_below hA2)) hS2 hys.1 hys.2.1 (by have:=HSL.out;omega) (by have:=HSL.out;rw[List.length_append];omega) (by have:=HSL.out;omega));have HL2:=Lib.hid hL2;have HR2:=Lib.hid hR2;have HT2:=Lib.hid hT2;have hlw:w.heap.size+1+1<wr.heap.size:=hL.lt (p:=(w.heap.size+1+1,_)) (List.mem_cons_self ..);have HAL:=Lib.hid hal;(have HYB:Y.args.length+1≤100000:=by omega);clear hal hsz hL2 hR2 hT2 hS2 hL hR hT hS hnd;have hnew:=zag wr (.cells #[.int .u8 (at' n.kids q).kind,.int .i64 (at' n.kids q).num,.string (at' n.kids q).name,.slice kaq (at' n.kids q).kids.length kcq] 30);have kk0:(wr.alloc (.cells #[.int .u8 (at' n.kids q).kind,.int .i64 (at' n.kids q).num,.string (at' n.kids q).name,.slice kaq (at' n.kids q).kids.length kcq] 30)).cell? ⟨wr.heap.size,0,none⟩=some (.int .u8 (at' n.kids q).kind):=zae hnew 0 rfl;have kk1:(wr.alloc (.cells #[.int .u8 (at' n.kids q).kind,.int .i64 (at' n.kids q).num,.string (at' n.kids q).name,.slice kaq (at' n.kids q).kids.length kcq] 30)).cell? ⟨wr.heap.size,1,none⟩=some (.int .i64 (at' n.kids q).num):=zae hnew 1 rfl;have kk2:(wr.alloc (.cells #[.int .u8 (at' n.kids q).kind,.int .i64 (at' n.kids q).num,.string (at' n.kids q).name,.slice kaq (at' n.kids q).kids.length kcq] 30)).cell? ⟨wr.heap.size,2,none⟩=some (.string (at' n.kids q).name):=zae hnew 2 rfl;have kk3:(wr.alloc (.cells #[.int .u8 (at' n.kids q).kind,.int .i64 (at' n.kids q).num,.string (at' n.kids q).name,.slice kaq (at' n.kids q).kids.length kcq] 30)).cell? ⟨wr.heap.size,3,none⟩=some (.slice kaq (at' n.kids q).kids.length kcq):=zae hnew 3 rfl;clear hnew;go_wp2;generalize(wr.alloc (.cells #[.int .u8 (at' n.kids q).kind,.int .i64 (at' n.kids q).num,.string (at' n.kids q).name,.slice kaq (at' n.kids q).kids.length kcq] 30))=W2 at*;clear q0 q1 q2 q3;generalize hXe:exprN C.lib (at' n.kids q) Y.env Y.ts=X at*;clear hXe;have hfd:=zep;go_region_law(first|(go_simp;go_at_call 75;refine HCX.out.mono ?_;rintro e w1⟨rfl,A1,tv1,bv1,c41,hS1,hT1⟩;have hL1:=HL2.out.step hT1;have hR1:=HR2.out.step hT1;have hT1':=HT2.out.trans hT1;have b5:w1.cell? ⟨w.heap.size+1+1,5,none⟩=some av:=zae (hL1.blk (List.mem_cons_self ..)) 5 rfl;have hB1:Below w1.heap.size w1 (w1.alloc (.cells #[.string X.par.name] 9)):=(Below.refl _ _).alloc (Nat.le_refl _) _;have b5':(w1.alloc (.cells #[.string X.par.name] 9)).cell? ⟨w.heap.size+1+1,5,none⟩=some av:=zae ((hL1.below hB1).blk (List.mem_cons_self ..)) 5 rfl;have HL1:=Lib.hid hL1;have HR1:=Lib.hid hR1;have HS1:=Lib.hid hS1;clear hL1 hR1 hS1)|(refine zbX TStr (by rfl) (by decide) (by rfl) (.tmp 79) (.tmp 85) (by rfl) (by rfl) (by rfl) (zaU HR1.out.own hB1) (.inr ⟨⟨w1.heap.size,0,none⟩,1,by rfl,zmC w1 _ _⟩) (by rfl) (by simp[Value.oneCell']) (by unfold maxLen;omega) (by omega) (by have:=hB1.size;have:=HL1.out.lt (p:=(w.heap.size+1+1,_)) (List.mem_cons_self ..);simp only at this;omega) ?_;intro v' w2 hown hg hnew;obtain⟨av',cv',rfl⟩:=zas hown;have hbk:=zkd HL1.out HR1.out (by omega) hB1 hg;have s5:w2.cell? ⟨w.heap.size+1+1,5,none⟩=some av:=zae hbk 5 rfl;have s6:=unfrozen hbk 5;have HN:=Lib.hid (zin HS1.out hT1' HL1.out HR1.out (by simp;omega) (by omega) (by omega) (by have:=HL1.out.lt (p:=(w.heap.size+1+1,_)) (List.mem_cons_self ..);simp only at this;omega) hxs.1 hB1 hown hg hnew);clear hbk hown hg hnew));all_goals clear kk0 kk1 kk2 kk3 p5 b5 b5' s5 s6;go_wp2;obtain⟨hS3,hT3,hL3,hR3⟩:=HN.out;have hR:ALoop C pb po A w tv bv c4 ts bs env N false n (.slice (some ⟨b,off,none⟩) n.kids.length kc) (.int .u8 n.kind) (.int .i64 n.num) (.string ⟨#[]⟩) (q+1) _:=⟨by omega,A1,tv1,bv1,c41,.slice av' (Y.args.length+1) cv',by rw[HST1.out,←List.append_assoc];exact hS3.mono (by have:=HSL.out;omega),hT3,hL3,by rw[HST1.out];exact hR3⟩;go_roundw;(case rel=>exact⟨q+1,by go_num,hR⟩);case measure=>simp[intOf];omega);·(obtain rfl:q=n.kids.length:=by omega);rw[List.take_length]at hS hR;have hal:=zcN C.lib false n.kids env ts;have hy:=zbP C.lib false n.kids env ts;generalize argsN C.lib false n.kids env ts=Y at*;have hsz:=HSZ.out;obtain⟨aa,ca,rfl⟩:=hR.form;obtain⟨hS2,hT2,hA2,hLL⟩:=zjJ hS hT hR (by omega) (by unfold maxLen;omega);have hL2:=hLL _ hL (by simp;omega);obtain⟨b0,b1,b2,b3,b4,b5,b6,b7⟩:=cells8 (hL.blk (List.mem_cons_self ..));have k0:wr.cell? ⟨w.heap.size,0,none⟩=some (.int .u8 n.kind):=zae (hL.blk (g:=w.heap.size) (List.mem_cons_of_mem _ (List.mem_cons_of_mem _ (List.mem_cons_self ..)))) 0 rfl;have HCX:Hid (∀L,opList n.kind=L→Calls Tryz.prog 111 _ wr _):=Lib.hid (fun L _=>zlZ C pb po _ wr tvq bvq c4q Y.ts (bs++Y.bs) Y.env _ ⟨#[]⟩ ⟨#[]⟩ false L n.kind n.num _ _ _ Y.args [] [] hS2 hA2 (BdsAt.nil _) (BdsAt.nil _) hok.1 hok.2.1 (Nat.zero_le _) (by omega) (by rw[List.length_append];omega));have HL2:=Lib.hid hL2;have HT2:=Lib.hid hT2;(have hlt:¬(n.kids.length:Int)<(n.kids.length:Int):=by omega);clear hS hT hL hR hS2 hT2 hA2 hLL hL2 hal hy hsz;cases h6:(n.kind==86);(·cases h7:(n.kind==87);(·cases h9:(n.kind==89);(·have tok1:True:=trivial;have HO:Hid (opList n.kind=false):=Lib.hid (by rw[zda,h6,h7,h9];rfl);go_wp2_with(go_at_call 111;refine(HCX.out _ HO.out).mono ?_;rintro e w5⟨rfl,A5,tv5,bv5,c45,hS5,hT5⟩;have hL5:=(HL2.out.step hT5).sub (L':=[(w.heap.size+1,.cells #[.string ⟨#[]⟩,.bool false] 71)]) (by simp);have hR5:=hL5.blk (List.mem_cons_self ..);have r0:w5.cell? ⟨w.heap.size+1,0,none⟩=some (.string ⟨#[]⟩):=zae hR5 0 rfl;have r1:w5.cell? ⟨w.heap.size+1,1,none⟩=some (.bool false):=zae hR5 1 rfl;have f0:=unfrozen hR5 0;have f1:=unfrozen hR5 1;have HS5:=Lib.hid hS5;have HL5:=Lib.hid hL5;have HT5:=Lib.hid (HT2.out.trans hT5);clear hR5 hS5 hL5 hT5);(try simp only[Exit.inBlock,Exit.then]);have hL6:=HL5.out.set 0 (.string (tname Y.ts.length)) (by simp);have hL7:=hL6.set 1 (.bool false) (by simp);have hS7:=(HS5.out.setLoc HL5.out (List.mem_cons_self ..) 0 (.string (tname Y.ts.length))).setLoc hL6 (List.mem_cons_self ..) 1 (.bool false);refine bodyPost_ret (results_cell_row (P:=Tryz.prog) rfl _ _ (w.heap.size+1) _ _ _ _ rfl (hL7.blk (List.mem_cons_self ..)) Tryz.underlying71 rfl (by kernel_rfl)) rfl ?_;rw[HEQ.out,HO.out];refine⟨rfl,A5,tv5,bv5,c45,?_,?_⟩;(·rw[←List.append_assoc];exact hS7.mono (by have:=HSZ.out;omega));·exact HT5.out.young ((zaf _ (w.heap.size+1) 0 _).same (zaf _ (w.heap.size+1) 1 _)) (fun k e=>by omega));·have tok1:True:=trivial;have HO:Hid (opList n.kind=true):=Lib.hid (by rw[zda,h6,h7,h9];rfl);go_wp2_with(go_at_call 111;refine(HCX.out _ HO.out).mono ?_;rintro e w5⟨rfl,A5,tv5,bv5,c45,hS5,hT5⟩;have hL5:=(HL2.out.step hT5).sub (L':=[(w.heap.size+1,.cells #[.string ⟨#[]⟩,.bool false] 71)]) (by simp);have hR5:=hL5.blk (List.mem_cons_self ..);have r0:w5.cell? ⟨w.heap.size+1,0,none⟩=some (.string ⟨#[]⟩):=zae hR5 0 rfl;have r1:w5.cell? ⟨w.heap.size+1,1,none⟩=some (.bool false):=zae hR5 1 rfl;have f0:=unfrozen hR5 0;have f1:=unfrozen hR5 1;have HS5:=Lib.hid hS5;have HL5:=Lib.hid hL5;have HT5:=Lib.hid (HT2.out.trans hT5);clear hR5 hS5 hL5 hT5);(try simp only[Exit.inBlock,Exit.then]);have hL6:=HL5.out.set 0 (.string (tname Y.ts.length)) (by simp);have hL7:=hL6.set 1 (.bool true) (by simp);have hS7:=(HS5.out.setLoc HL5.out (List.mem_cons_self ..) 0 (.string (tname Y.ts.length))).setLoc hL6 (List.mem_cons_self ..) 1 (.bool true);refine bodyPost_ret (results_cell_row (P:=Tryz.prog) rfl _ _ (w.heap.size+1) _ _ _ _ rfl (hL7.blk (List.mem_cons_self ..)) Tryz.underlying71 rfl (by kernel_rfl)) rfl ?_;rw[HEQ.out,HO.out];refine⟨rfl,A5,tv5,bv5,c45,?_,?_⟩;(·rw[←List.append_assoc];exact hS7.mono (by have:=HSZ.out;omega));·exact HT5.out.young ((zaf _ (w.heap.size+1) 0 _).same (zaf _ (w.heap.size+1) 1 _)) (fun k e=>by omega));·have tok1:True:=trivial;have HO:Hid (opList n.kind=true):=Lib.hid (by rw[zda,h6,h7];rfl);go_wp2_with(go_at_call 111;refine(HCX.out _ HO.out).mono ?_;rintro e w5⟨rfl,A5,tv5,bv5,c45,hS5,hT5⟩;have hL5:=(HL2.out.step hT5).sub (L':=[(w.heap.size+1,.cells #[.string ⟨#[]⟩,.bool false] 71)]) (by simp);have hR5:=hL5.blk (List.mem_cons_self ..);have r0:w5.cell? ⟨w.heap.size+1,0,none⟩=some (.string ⟨#[]⟩):=zae hR5 0 rfl;have r1:w5.cell? ⟨w.heap.size+1,1,none⟩=some (.bool false):=zae hR5 1 rfl;have f0:=unfrozen hR5 0;have f1:=unfrozen hR5 1;have HS5:=Lib.hid hS5;have HL5:=Lib.hid hL5;have HT5:=Lib.hid (HT2.out.trans hT5);clear hR5 hS5 hL5 hT5);(try simp only[Exit.inBlock,Exit.then]);have hL6:=HL5.out.set 0 (.string (tname Y.ts.length)) (by simp);have hL7:=hL6.set 1 (.bool true) (by simp);have hS7:=(HS5.out.setLoc HL5.out (List.mem_cons_self ..) 0 (.string (tname Y.ts.length))).setLoc hL6 (List.mem_cons_self ..) 1 (.bool true);refine bodyPost_ret (results_cell_row (P:=Tryz.prog) rfl _ _ (w.heap.size+1) _ _ _ _ rfl (hL7.blk (List.mem_cons_self ..)) Tryz.underlying71 rfl (by kernel_rfl)) rfl ?_;rw[HEQ.out,HO.out];refine⟨rfl,A5,tv5,bv5,c45,?_,?_⟩;(·rw[←List.append_assoc];exact hS7.mono (by have:=HSZ.out;omega));·exact HT5.out.young ((zaf _ (w.heap.size+1) 0 _).same (zaf _ (w.heap.size+1) 1 _)) (fun k e=>by omega));·have tok1:True:=trivial;have HO:Hid (opList n.kind=true):=Lib.hid (by rw[zda,h6];rfl);go_wp2_with(go_at_call 111;refine(HCX.out _ HO.out).mono ?_;rintro e w5⟨rfl,A5,tv5,bv5,c45,hS5,hT5⟩;have hL5:=(HL2.out.step hT5).sub (L':=[(w.heap.size+1,.cells #[.string ⟨#[]⟩,.bool false] 71)]) (by simp);have hR5:=hL5.blk (List.mem_cons_self ..);have r0:w5.cell? ⟨w.heap.size+1,0,none⟩=some (.string ⟨#[]⟩):=zae hR5 0 rfl;have r1:w5.cell? ⟨w.heap.size+1,1,none⟩=some (.bool false):=zae hR5 1 rfl;have f0:=unfrozen hR5 0;have f1:=unfrozen hR5 1;have HS5:=Lib.hid hS5;have HL5:=Lib.hid hL5;have HT5:=Lib.hid (HT2.out.trans hT5);clear hR5 hS5 hL5 hT5);(try simp only[Exit.inBlock,Exit.then]);have hL6:=HL5.out.set 0 (.string (tname Y.ts.length)) (by simp);have hL7:=hL6.set 1 (.bool true) (by simp);have hS7:=(HS5.out.setLoc HL5.out (List.mem_cons_self ..) 0 (.string (tname Y.ts.length))).setLoc hL6 (List.mem_cons_self ..) 1 (.bool true);refine bodyPost_ret (results_cell_row (P:=Tryz.prog) rfl _ _ (w.heap.size+1) _ _ _ _ rfl (hL7.blk (List.mem_cons_self ..)) Tryz.underlying71 rfl (by kernel_rfl)) rfl ?_;rw[HEQ.out,HO.out];refine⟨rfl,A5,tv5,bv5,c45,?_,?_⟩;(·rw[←List.append_assoc];exact hS7.mono (by have:=HSZ.out;omega));·exact HT5.out.young ((zaf _ (w.heap.size+1) 0 _).same (zaf _ (w.heap.size+1) 1 _)) (fun k e=>by omega)
theorem ziO:∀m,XOk m|0=>fun C n v pb po A w tv bv c4 ts bs env N hm=>by have:=zaI n;omega|m+1=>fun C n v pb po A w tv bv c4 ts bs env N hm hform hkn hv hst hse hts hl1 hl2 hl3=>by obtain⟨h84,h83,h85⟩:=zhS hkn;by_cases h81:n.kind=81;(·exact zky C n v pb po A w tv bv c4 ts bs env N h81 hv hst);·exact zmh m (ziO m) C n v pb po A w tv bv c4 ts bs env N h81 h84 h83 h85 hm hform hkn hv hst hse hts hl1 hl2 hl3
end Go.Proofs.YtnjfnellghhkaaaGreatDoor
