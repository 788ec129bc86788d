/- Contracts and plain lemmas (FunH, FunI, PAnf, AnfA, AnfB, AnfC, AnfD, AnfE, AnfF): no statement of the seat is proved here. -/
import Derived.Test.YtnjfnellghhkaaaGreatDoorYa1
import Derived.Test.YtnjfnellghhkaaaGreatDoorShelf
import Derived.StillTailTactics
import Derived.Laws.EntriesVeiled
import Derived.Lib.ItoaNum
import Derived.Lib.AppendIntMem
import Derived.Deep.LoopGhost
import Derived.Deep.RegionLaw
import Derived.Handy
set_option linter.unusedSimpArgs false
set_option linter.unusedVariables false
set_option linter.unusedSectionVars false
set_option maxRecDepth 100000
set_option maxHeartbeats 6400000
namespace Go.Proofs.YtnjfnellghhkaaaGreatDoor
open Go.RowKit
theorem ziw(lib:List Fn)(n:Nd)(vis:Vis):checkN lib n vis=if reachE lib vis n.kind n.name n.kids.length≠0 then(false,reachE lib vis n.kind n.name n.kids.length)else if(checkL lib (decide (n.kind=84)) n.name n.kids 0 [] vis).2≠0 then(false,(checkL lib (decide (n.kind=84)) n.name n.kids 0 [] vis).2)else if n.kind=81 then((vis n.name).getD false,0)else resultT lib n.kind n.name (checkL lib (decide (n.kind=84)) n.name n.kids 0 [] vis).1:=by cases n;rfl
variable {A:Nat → Prop}{A':Nat → Prop}{N:Nat}{S:Nat → Prop}{bV:Nat}{base:Nat}{bm:Nat}{bo:Nat}{bv:Value}{c0:Value}{c1:Value}{c2:Value}{c4:Value}{c5:Value}{e:Nat}{lib:List Fn}{lv:Value}{n:Nd}{pb:Nat}{po:Nat}{q:Nat}{size:Nat}{ts:List Par}{tv:Value}{v:Value}{vis:Vis}{w:World}{w':World}{w1:World}{xs:List Value}
theorem ziI{l:List Nd}(h:q<l.length):l.drop q=at' l q::l.drop (q+1):=by rw[zam h];exact List.drop_eq_getElem_cons h
theorem zbQ{b:Bool}{name:ByteArray}{l:List Nd}(h:q<l.length)(types:List Bool)(vis:Vis):checkL lib b name (l.drop q) q types vis=if(checkN lib (at' l q) (if b∧q=1 then vis.put name (types.getD 0 false)else vis)).2≠0 then([],(checkN lib (at' l q) (if b∧q=1 then vis.put name (types.getD 0 false)else vis)).2)else checkL lib b name (l.drop (q+1)) (q+1) (types++[(checkN lib (at' l q) (if b∧q=1 then vis.put name (types.getD 0 false)else vis)).1]) vis:=by rw[ziI h];rfl
structure VisAt (A:Nat→Prop) (w:World) (bl bv bf bm N:Nat) (lib:List Fn) (vis:Vis) (lv:Value):Prop where
 lcell:w.cell? ⟨bl,0,none⟩=some lv
 vcell:w.cell? ⟨bv,0,none⟩=some (.map (some bm))
 fcell:w.cell? ⟨bf,0,none⟩=some (.func (.func 122) #[] #[.pointer (some ⟨bl,0,none⟩),.pointer (some ⟨bv,0,none⟩),.pointer (some ⟨bf,0,none⟩)])
 llt:bl < w.heap.size∧bl≠bm
 vlt:bv < w.heap.size∧bv≠bm
 flt:bf < w.heap.size∧bf≠bm
 map:SMapLe Tryz.prog 9 w bm (visM vis) N
 lib:FnsAt A w lv lib
 apart:¬ A bm
theorem VisAt.keeps{bl bv bf N':Nat}{vis':Vis}(h:VisAt A w bl bv bf bm N lib vis lv)(hk:Keeps w w' (fun k=>k=bm))(hm:SMapLe Tryz.prog 9 w' bm (visM vis') N'):VisAt A w' bl bv bf bm N' lib vis' lv:=⟨(hk.cell h.llt.1 h.llt.2).trans h.lcell,(hk.cell h.vlt.1 h.vlt.2).trans h.vcell,(hk.cell h.flt.1 h.flt.2).trans h.fcell,⟨Nat.lt_of_lt_of_le h.llt.1 hk.size,h.llt.2⟩,⟨Nat.lt_of_lt_of_le h.vlt.1 hk.size,h.vlt.2⟩,⟨Nat.lt_of_lt_of_le h.flt.1 hk.size,h.flt.2⟩,hm,h.lib.stays (hk.stays (fun k ha _ e=>h.apart (e▸ha))),h.apart⟩
theorem VisAt.below{bl bv bf:Nat}(h:VisAt A w bl bv bf bm N lib vis lv)(hb:Below w.heap.size w w'):VisAt A w' bl bv bf bm N lib vis lv:=h.keeps (Keeps.of_below _ hb) (h.map.below hb)
theorem zhb(h:NdAt A w v n)(hk:Keeps w w' (fun k=>k=bm))(ha:¬A bm):NdAt A w' v n:=h.stays (hk.stays (fun k hA _ e=>ha (e▸hA)))
def VisPost(A:Nat→Prop)(w:World)(bm N:Nat)(lib:List Fn)(vis:Vis)(n:Nd)(e:Ending)(w':World):Prop:=e=.returned (.tuple #[.bool (checkN lib n vis).1,.int .i64 (checkN lib n vis).2])∧Keeps w w' (fun k=>k=bm)∧((checkN lib n vis).2=0→SMapLe Tryz.prog 9 w' bm (visM vis) (N+2*sizeN n))
theorem zhq(vis:Vis)(name:ByteArray)(b:Bool):∀s,(fun y=>if y=name then some (Value.bool b)else visM vis y) s=visM (vis.put name b) s:=by intro s;simp only[visM,Vis.put];split<;>rfl
theorem zlp(vis:Vis)(name:ByteArray)(b:Bool)(h:vis name=none):∀s,(fun y=>if y=name then none else visM (vis.put name b) y) s=visM vis s:=by
 intro s;simp only[visM,Vis.put];by_cases e:s=name;·subst e;simp[h]
 ·simp[e]
theorem zdi(h:formedN n=true)(hk:n.kind=84):n.kids.length=2:=by rw[zcn,Bool.and_eq_true]at h;have:=h.1;rw[hk]at this;simp[formB]at this;exact this.2.2
theorem zco(h:formedN n=true){j:Nat}(hj:j<n.kids.length):formedN (at' n.kids j)=true:=by rw[zcn,Bool.and_eq_true]at h;exact(zbR _).1 h.2 j hj
def VLoop(A:Nat→Prop)(w wr:World)(bl bv bf bm N:Nat)(lib:List Fn)(vis:Vis)(lv:Value)(n:Nd)(q:Nat)(types:List Bool)(tv kv:Value):Prop:=q≤n.kids.length∧types.length=q∧checkL lib (decide (n.kind=84)) n.name n.kids 0 [] vis=checkL lib (decide (n.kind=84)) n.name (n.kids.drop q) q types vis∧RowB wr w.heap.size tv types∧Keeps w wr (fun k=>k=bm)∧SMapLe Tryz.prog 9 wr bm (visM vis) (N+2*sizeL (n.kids.take q)+(if n.kind=84 then q else 0))∧(∀k,tv.ownBlock=some k→k≠w.heap.size)∧w.heap.size<wr.heap.size∧wr.cell? ⟨w.heap.size,0,none⟩=some (.int .u8 n.kind)∧wr.cell? ⟨w.heap.size,1,none⟩=some (.int .i64 n.num)∧wr.cell? ⟨w.heap.size,2,none⟩=some (.string n.name)∧wr.cell? ⟨w.heap.size,3,none⟩=some kv
theorem zbT:∀l:List Nd,l.length≤sizeL l|[]=>by simp[sizeL]|n::r=>by have:=zbT r;have:=zaI n;simp[sizeL];omega
theorem vbound{a b c:Nat}{p:Prop} [Decidable p](h:b=a+c):N+2*a+(if p then q else 0)+2*c≤N+2*b+(if p then q+1 else 0):=by split<;>omega
theorem vbound1{a b c:Nat}(h:b=a+c):N+2*a+1+1+2*c≤N+2*b+(1+1):=by omega
theorem zdr{w3 w4:World}{bl bv bf:Nat}{vis':Vis}{types:List Bool}{v' kv:Value}(hq:q<n.kids.length)(htl:types.length=q)(hvis:vis'=if decide (n.kind=84)=true∧q=1 then vis.put n.name (types.getD 0 false)else vis)(hchk:checkL lib (decide (n.kind=84)) n.name n.kids 0 [] vis=checkL lib (decide (n.kind=84)) n.name (n.kids.drop q) q types vis)(hc0:(checkN lib (at' n.kids q) vis').2=0)(hk3:Keeps w w3 (fun k=>k=bm))(hm3:SMapLe Tryz.prog 9 w3 bm (visM vis) (N+2*sizeL (n.kids.take (q+1))+(if n.kind=84 then q+1 else 0)))(hne:∀k,tv.ownBlock=some k→k≠w.heap.size∧w.heap.size≤k)(hzw:w.heap.size<w3.heap.size)(hbm:bm<w.heap.size)(c0:w3.cell? ⟨w.heap.size,0,none⟩=some (.int .u8 n.kind))(c1:w3.cell? ⟨w.heap.size,1,none⟩=some (.int .i64 n.num))(c2:w3.cell? ⟨w.heap.size,2,none⟩=some (.string n.name))(c3:w3.cell? ⟨w.heap.size,3,none⟩=some kv)(hrow:RowB w4 w.heap.size v' (types++[(checkN lib (at' n.kids q) vis').1]))(hg:w3.grownBy w4 tv.ownBlock)(hn:NewOr w3 tv v'):VLoop A w w4 bl bv bf bm N lib vis lv n (q+1) (types++[(checkN lib (at' n.kids q) vis').1]) v' kv:=by
 refine⟨by omega,by simp[htl],?_,hrow,hk3.trans (Keeps.of_grown (S:=fun k=>tv.ownBlock=some k) hg (fun k e=>.inl e)) (fun k e=>.inr (hne k e).2),?_,fun k hk=>?_,Nat.lt_of_lt_of_le hzw hg.size,?_,?_,?_,?_⟩;·rw[hchk,zbQ hq,←hvis,if_neg (by simpa using hc0)]
 ·exact hm3.kept hg (fun e=>by have:=(hne bm e.symm).2;omega)
 ·rcases hn k hk with h|h;(·exact(hne k h).1);·omega
 ·exact hg.cell c0 (fun e=>(hne _ e.symm).1 rfl)
 ·exact hg.cell c1 (fun e=>(hne _ e.symm).1 rfl)
 ·exact hg.cell c2 (fun e=>(hne _ e.symm).1 rfl)
 ·exact hg.cell c3 (fun e=>(hne _ e.symm).1 rfl)
theorem zij(m:Nat):∀(n:Nd)(v:Value)(A:Nat→Prop)(w:World)(bl bv bf bm N:Nat)(lib:List Fn)(vis:Vis)(lv:Value),sizeN n≤m→N+2*sizeN n≤100000→formedN n=true→NdAt A w v n→VisAt A w bl bv bf bm N lib vis lv→Calls Tryz.prog 122 #[v,.pointer (some ⟨bl,0,none⟩),.pointer (some ⟨bv,0,none⟩),.pointer (some ⟨bf,0,none⟩)] w (VisPost A w bm N lib vis n):=by induction m with|zero=>intro n v A w bl bv bf bm N lib vis lv hm;have:=zaI n;omega|succ m ih=>intro n v A w bl bv bf bm N lib vis lv hm hN hform hv hV;have IH:=Lib.hid ih;clear ih;obtain⟨hok,hlen,ka,kc,rfl,hk⟩:=hv.open;have HS:Hid (∀j,j<n.kids.length→sizeN (at' n.kids j)≤m):=Lib.hid (fun j hj=>by have:=zaV n j hj;omega);have HSE:=Lib.hid (zaQ n);have HE:=Lib.hid (ziw lib n vis);have HFO:=Lib.hid hform;have hsname:=hok.2.2;unfold maxLen at hlen;have hA:Below w.heap.size w (w.alloc (.cells #[.int .u8 n.kind,.int .i64 n.num,.string n.name,.slice ka n.kids.length kc] 30)):=(Below.refl _ _).alloc (Nat.le_refl _) _;have hVA:=hV.below hA;have hvA:=hv.stays (Stays.of_below hA);obtain⟨_,la,lc,rfl⟩:=hV.lib.form;have l1:=hVA.lcell;have l2:=hVA.vcell;clear hform;by_cases hre:reachE lib vis n.kind n.name n.kids.length=0;(·have HRE:=Lib.hid hre;clear hre;go_enter Tryz.func122,Tryz.ntmps122;go_wp2_with fail;refine(zfQ _ lib bm N vis _ n A _ hVA.lib hVA.map hvA).mono ?_;rintro e w1⟨rfl,hb1⟩;rw[HRE.out];have hV1:=hVA.below hb1;have c0:w1.cell? ⟨w.heap.size,0,none⟩=some (.int .u8 n.kind):=(hb1.cell (p:=⟨w.heap.size,0,none⟩) (by simp)).trans (by simp);have c1:w1.cell? ⟨w.heap.size,1,none⟩=some (.int .i64 n.num):=(hb1.cell (p:=⟨w.heap.size,1,none⟩) (by simp)).trans (by simp);have c2:w1.cell? ⟨w.heap.size,2,none⟩=some (.string n.name):=(hb1.cell (p:=⟨w.heap.size,2,none⟩) (by simp)).trans (by simp);have c3:w1.cell? ⟨w.heap.size,3,none⟩=some (.slice ka n.kids.length kc):=(hb1.cell (p:=⟨w.heap.size,3,none⟩) (by simp)).trans (by simp);have hB1:Below w.heap.size w w1:=hA.trans (hb1.mono (by simp));have hz1:=hb1.size;simp at hz1;have hR:VLoop A w w1 bl bv bf bm N lib vis (.slice la lib.length lc) n 0 [] (.slice none 0 0) (.slice ka n.kids.length kc):=⟨Nat.zero_le _,rfl,rfl,RowB.nil _ _,Keeps.of_below _ hB1,hV1.map.mono (by omega),fun k hk=>by simp[Value.ownBlock]at hk,by omega,c0,c1,c2,c3⟩;clear l1 l2 hVA hvA hA hb1 hV1 hB1 hz1 c0 c1 c2;go_wp2;clear c3;go_loopw[24,8](fun i tv wr=>∃q types,i=.int .i64 ((q:Nat):Int)∧VLoop A w wr bl bv bf bm N lib vis (.slice la lib.length lc) n q types tv (.slice ka n.kids.length kc))(fun i _ _=>n.kids.length-(intOf i).toNat);(case atStart=>exact⟨0,[],rfl,hR⟩);case round=>clear hR;obtain⟨q,types,rfl,hq,htl,hchk,hrow,hkp,hmp,hne,hzw,c0,c1,c2,c3⟩:=hrel;obtain⟨ta,tc,rfl⟩:=hrow.formLen htl;have HROW:=Lib.hid hrow;have HTL:=Lib.hid htl;have HCK:=Lib.hid hchk;have hVr:=hV.keeps hkp hmp;have hkr:=hk.stays (hkp.stays (fun k ha _ e=>hV.apart (e▸ha)));have HNE:Hid (∀k,(Value.slice ta q tc).ownBlock=some k→k≠w.heap.size∧w.heap.size≤k):=Lib.hid (fun k e=>⟨hne k e,(hrow.2.lt k e).1⟩);have hbmw:=hV.map.lt;clear hrow htl hchk hne;by_cases hlt:q<n.kids.length;(·obtain⟨b,off,cap,ka',kc',he,hb,_,_,k0,k1,k2,k3,hnd⟩:=hkr.at hlt;simp only[Value.slice.injEq]at he;obtain⟨rfl,-,rfl⟩:=he;have hA2:Below wr.heap.size wr (wr.alloc (.cells #[.int .u8 (at' n.kids q).kind,.int .i64 (at' n.kids q).num,.string (at' n.kids q).name,.slice ka' (at' n.kids q).kids.length kc'] 30)):=(Below.refl _ _).alloc (Nat.le_refl _) _;have hVr2:=hVr.below hA2;have f2:=hVr2.fcell;have hst:=Lib.hid (zaZ n.kids q hlt);have hsl:=zat n.kids (q+1);have hse:=HSE.out;have hkl:=zbT n.kids;have hnd2:=hnd.stays (Stays.of_below hA2);have hkp2:Keeps w (wr.alloc (.cells #[.int .u8 (at' n.kids q).kind,.int .i64 (at' n.kids q).num,.string (at' n.kids q).name,.slice ka' (at' n.kids q).kids.length kc'] 30)) (fun k=>k=bm):=hkp.alloc _;have hrow2:RowB (wr.alloc (.cells #[.int .u8 (at' n.kids q).kind,.int .i64 (at' n.kids q).num,.string (at' n.kids q).name,.slice ka' (at' n.kids q).kids.length kc'] 30)) w.heap.size _ types:=⟨HROW.out.1,zaU HROW.out.2 hA2⟩;have HROW2:=Lib.hid hrow2;clear hrow2 hVr hnd hkr;by_cases hbd:n.kind=84∧q=1;(·obtain⟨h84,rfl⟩:=hbd;have HN2:=Lib.hid (zdi HFO.out h84);(have d84:(n.kind==84)=true:=by simpa using h84);(have hvn:vis n.name=none:=by have:=HRE.out;unfold reachE at this;rw[if_neg (by omega),if_pos h84]at this;cases e:vis n.name with|none=>rfl|some b=>rw[e]at this;simp at this);have HVN:=Lib.hid hvn;obtain⟨bt,ot,ct,he,hbt,ht0⟩:=HROW2.out.bools.at (j:=0) (by have:=HTL.out;omega);rw[HTL.out]at he;simp only[Value.slice.injEq]at he;obtain⟨rfl,-,rfl⟩:=he;rw[Nat.add_zero]at ht0;have e2:=(hA2.cell (p:=⟨w.heap.size,2,none⟩) hzw).trans c2;have v2:=hVr2.vcell;have hm2:=hVr2.map;rw[if_pos h84]at hm2;(have hb2:N+2*sizeL (n.kids.take 1)+1+1+2*sizeN (at' n.kids 1)≤100000:=by have:=hst.out;omega);have H84:=Lib.hid h84;clear h84 hvn hmp;(have q0:(wr.alloc (.cells #[.int .u8 (at' n.kids 1).kind,.int .i64 (at' n.kids 1).num,.string (at' n.kids 1).name,.slice ka' (at' n.kids 1).kids.length kc'] 30)).cell? ⟨wr.heap.size,0,none⟩=some (.int .u8 (at' n.kids 1).kind):=by simp);(have q1:(wr.alloc (.cells #[.int .u8 (at' n.kids 1).kind,.int .i64 (at' n.kids 1).num,.string (at' n.kids 1).name,.slice ka' (at' n.kids 1).kids.length kc'] 30)).cell? ⟨wr.heap.size,1,none⟩=some (.int .i64 (at' n.kids 1).num):=by simp);(have q2:(wr.alloc (.cells #[.int .u8 (at' n.kids 1).kind,.int .i64 (at' n.kids 1).num,.string (at' n.kids 1).name,.slice ka' (at' n.kids 1).kids.length kc'] 30)).cell? ⟨wr.heap.size,2,none⟩=some (.string (at' n.kids 1).name):=by simp);(have q3:(wr.alloc (.cells #[.int .u8 (at' n.kids 1).kind,.int .i64 (at' n.kids 1).num,.string (at' n.kids 1).name,.slice ka' (at' n.kids 1).kids.length kc'] 30)).cell? ⟨wr.heap.size,3,none⟩=some (.slice ka' (at' n.kids 1).kids.length kc'):=by simp);(have hWs:(wr.alloc (.cells #[.int .u8 (at' n.kids 1).kind,.int .i64 (at' n.kids 1).num,.string (at' n.kids 1).name,.slice ka' (at' n.kids 1).kids.length kc'] 30)).heap.size=wr.heap.size+1:=by simp);have HWS:=Lib.hid hWs;clear hWs;go_wp2_with fail;generalize(wr.alloc (.cells #[.int .u8 (at' n.kids 1).kind,.int .i64 (at' n.kids 1).num,.string (at' n.kids 1).name,.slice ka' (at' n.kids 1).kids.length kc'] 30))=W at*;have hWs:=HWS.out;go_still_tail 6,(by kernel_rfl);change wpList _ _ _ _ _ W.drew;go_wp2_with(refine zff MB rfl (.tmp 37) (.tmp 39) _ (.inr rfl) rfl rfl rfl (by exact hm2) hsname (by unfold maxLen;omega) ?_);intro w3 hm3 hg3;have hm3':=hm3.ext (zhq vis n.name (at' types 0));have hkg:Keeps W w3 (fun k=>k=bm):=⟨hg3.os,hg3.tape,hg3.output,hg3.size,fun k hk hn=>hg3.block k hk (fun e=>hn (by simpa using e))⟩;have hV3:=hVr2.keeps hkg hm3';have hnd3:=zhb hnd2 hkg hV.apart;have f3:=hV3.fcell;(have hwr:wr.heap.size≠bm:=by have:=hkp.size;omega);have k30:=(hkg.cell (p:=⟨wr.heap.size,0,none⟩) (by simp;omega) hwr).trans q0;have k31:=(hkg.cell (p:=⟨wr.heap.size,1,none⟩) (by simp;omega) hwr).trans q1;have k32:=(hkg.cell (p:=⟨wr.heap.size,2,none⟩) (by simp;omega) hwr).trans q2;have k33:=(hkg.cell (p:=⟨wr.heap.size,3,none⟩) (by simp;omega) hwr).trans q3;clear hWs;clear hm3 hg3 hm2;go_wp2_with fail;refine(IH.out (at' n.kids 1) _ A _ bl bv bf bm _ lib (vis.put n.name (at' types 0)) _ (HS.out 1 hlt) hb2 (zco HFO.out hlt) hnd3 hV3).mono ?_;rintro e w4⟨rfl,hk4,hm4⟩;have hk4':=hkg.same hk4;have hk4w:=hkp2.same hk4';have hz4:=hk4'.size;have hws4:=HWS.out;(have hzw4:w.heap.size<w4.heap.size:=by omega);have HM4:=Lib.hid hm4;have g0:=(hk4'.cell (p:=⟨w.heap.size,0,none⟩) (by simp;omega) (by simp;omega)).trans ((hA2.cell (p:=⟨w.heap.size,0,none⟩) hzw).trans c0);have g1:=(hk4'.cell (p:=⟨w.heap.size,1,none⟩) (by simp;omega) (by simp;omega)).trans ((hA2.cell (p:=⟨w.heap.size,1,none⟩) hzw).trans c1);have g2:=(hk4'.cell (p:=⟨w.heap.size,2,none⟩) (by simp;omega) (by simp;omega)).trans ((hA2.cell (p:=⟨w.heap.size,2,none⟩) hzw).trans c2);have g3:=(hk4'.cell (p:=⟨w.heap.size,3,none⟩) (by simp;omega) (by simp;omega)).trans ((hA2.cell (p:=⟨w.heap.size,3,none⟩) hzw).trans c3);have v4:=(hk4'.cell hVr2.vlt.1 hVr2.vlt.2).trans hVr2.vcell;clear hm4;by_cases hce:(checkN lib (at' n.kids 1) (vis.put n.name (at' types 0))).2=0;(·have HCE:=Lib.hid hce;(have t0:((checkN lib (at' n.kids 1) (vis.put n.name (at' types 0))).2 !=0)=false:=by simp[hce]);have hm5:=HM4.out hce;have hrow4:RowB w4 w.heap.size _ types:=⟨HROW2.out.1,zau HROW2.out.2 hk4' (fun k e=>by have:=(HNE.out k e).2;omega)⟩;have HR4:=Lib.hid hrow4;clear hws4 q0 q1 q2 q3 hce hrow4 hk4 hkp2 hkp hVr2 hnd2 hA2 c0 c1 c2 c3 f2 k0 k1 k2 k3 f3 k30 k31 k32 k33 hV3 hnd3 hkg ht0 v2 e2;go_wp2_with(refine zlq MB rfl (.tmp 53) (.tmp 55) rfl rfl rfl hm5 hsname ?_);intro w5 hm6 hg6;have hm6':=hm6.ext (zlp vis n.name (at' types 0) HVN.out);have hk5:Keeps w4 w5 (fun k=>k=bm):=Keeps.of_grown hg6 (fun k e=>.inl (by simpa using e.symm));have hk5w:=hk4w.same hk5;have hz5:=hk5.size;have hrow5:RowB w5 w.heap.size _ types:=⟨HR4.out.1,zau HR4.out.2 hk5 (fun k e=>by have:=(HNE.out k e).2;omega)⟩;have HR5:=Lib.hid hrow5;have j0:=(hk5.cell (p:=⟨w.heap.size,0,none⟩) (by simp;omega) (by simp;omega)).trans g0;have j1:=(hk5.cell (p:=⟨w.heap.size,1,none⟩) (by simp;omega) (by simp;omega)).trans g1;have j2:=(hk5.cell (p:=⟨w.heap.size,2,none⟩) (by simp;omega) (by simp;omega)).trans g2;have j3:=(hk5.cell (p:=⟨w.heap.size,3,none⟩) (by simp;omega) (by simp;omega)).trans g3;clear hrow5 hm6 hg6 hm5 g0 g1 g2 g3 v4;go_wp2_with(at_builtin;refine zca rfl (.tmp 56) (.tmp 58) rfl rfl rfl rfl HR5.out (by have:=HTL.out;omega) (by omega) ?_);intro v7 w7 h7 hg7 hn7;have hR:=zdr (A:=A) (bl:=bl) (bv:=bv) (bf:=bf) (lv:=.slice la lib.length lc) hlt HTL.out (if_pos ⟨by simpa using H84.out,rfl⟩).symm HCK.out HCE.out hk5w (hm6'.mono (by rw[if_pos H84.out];exact vbound1 hst.out)) HNE.out (by omega) hbmw j0 j1 j2 j3 h7 hg7 hn7;obtain⟨a7,c7,rfl⟩:=h7.formLen (q:=1+1) (by rw[List.length_append,HTL.out];rfl);clear h7 hg7 hn7 j0 j1 j2 j3 hm6';go_wp2;go_roundw;(case rel=>exact⟨1+1,_,by go_num,hR⟩);case measure=>simp[intOf];have:=HN2.out;omega);·(have t0:((checkN lib (at' n.kids 1) (vis.put n.name (at' types 0))).2 !=0)=true:=by simpa using hce);have HF:=Lib.hid (show checkN lib n vis=(false,(checkN lib (at' n.kids 1) (vis.put n.name (at' types 0))).2)by rw[HE.out,if_neg (by simpa using HRE.out),HCK.out,zbQ hlt,if_pos (show decide (n.kind=84)=true∧1=1 from⟨by simpa using H84.out,rfl⟩)];rw[if_pos (show(checkN lib (at' n.kids 1) (vis.put n.name (types.getD 0 false))).2≠0 from hce)];exact if_pos hce);have HCE:=Lib.hid hce;clear hws4 q0 q1 q2 q3 hce hkp2 hkp hVr2 hnd2 hA2 c0 c1 c2 c3 f2 k0 k1 k2 k3 f3 k30 k31 k32 k33 hV3 hnd3 hkg ht0 v2 e2;go_wp2;go_ret2;refine⟨?_,hk4w,fun h=>absurd h ?_⟩;(·rw[HF.out];rfl);·rw[HF.out];exact HCE.out);·have HV:Hid ((if decide (n.kind=84)=true∧q=1 then vis.put n.name (types.getD 0 false)else vis)=vis):=Lib.hid (if_neg (by simpa using hbd));(have hNb:N+2*sizeL (n.kids.take q)+(if n.kind=84 then q else 0)+2*sizeN (at' n.kids q)≤100000:=by have:=hst.out;by_cases h84:n.kind=84;(·have:=zdi HFO.out h84;rw[if_pos h84];omega);·rw[if_neg h84];omega);by_cases h84:n.kind=84;(·(have d84:(n.kind==84)=true:=by simpa using h84);have hq0:q≠1:=fun e=>hbd ⟨h84,e⟩;(have dq:((q:Int)==1)=false:=by simp;omega);have H84:=Lib.hid h84;clear h84 hbd;go_wp2_with fail;refine(IH.out (at' n.kids q) _ A _ bl bv bf bm _ lib vis _ (HS.out q hlt) hNb (zco HFO.out hlt) hnd2 hVr2).mono ?_;rintro e w3⟨rfl,hk3,hm3⟩;have hk3w:=hkp2.same hk3;have hz3:=hk3.size;simp at hz3;have HM3:=Lib.hid hm3;have d0:=(hk3.cell (p:=⟨w.heap.size,0,none⟩) (by simp;omega) (by simp;omega)).trans ((hA2.cell (p:=⟨w.heap.size,0,none⟩) hzw).trans c0);have d1:=(hk3.cell (p:=⟨w.heap.size,1,none⟩) (by simp;omega) (by simp;omega)).trans ((hA2.cell (p:=⟨w.heap.size,1,none⟩) hzw).trans c1);have d3:=(hk3.cell (p:=⟨w.heap.size,3,none⟩) (by simp;omega) (by simp;omega)).trans ((hA2.cell (p:=⟨w.heap.size,3,none⟩) hzw).trans c3);have d2:=(hk3.cell (p:=⟨w.heap.size,2,none⟩) (by simp;omega) (by simp;omega)).trans ((hA2.cell (p:=⟨w.heap.size,2,none⟩) hzw).trans c2);clear hm3;by_cases hce:(checkN lib (at' n.kids q) vis).2=0;(·have HCE:=Lib.hid hce;(have t0:((checkN lib (at' n.kids q) vis).2 !=0)=false:=by simp[hce]);have hrow3:RowB w3 w.heap.size _ types:=⟨HROW2.out.1,zau HROW2.out.2 hk3 (fun k e=>by have:=(HNE.out k e).2;omega)⟩;have HR3:=Lib.hid hrow3;have hm4:=HM3.out HCE.out;have HM4:=Lib.hid hm4;clear hce hrow3 hm4 hk3 hkp2 hkp hmp hVr2 hnd2 hA2 c0 c1 c2 c3 f2 k0 k1 k2 k3;go_wp2_with(at_builtin;refine zca rfl (.tmp 56) (.tmp 58) rfl rfl rfl rfl HR3.out (by have:=HTL.out;omega) (by omega) ?_);intro v5 w5 h5 hg5 hn5;have hR:=zdr (A:=A) (bl:=bl) (bv:=bv) (bf:=bf) (lv:=.slice la lib.length lc) hlt HTL.out HV.out.symm HCK.out HCE.out hk3w (HM4.out.mono (vbound hst.out)) HNE.out (by omega) hbmw d0 d1 d2 d3 h5 hg5 hn5;obtain⟨a5,c5,rfl⟩:=h5.formLen (q:=q+1) (by rw[List.length_append,HTL.out];rfl);clear h5 hg5 hn5 d0 d1 d2 d3;go_wp2;go_roundw;(case rel=>exact⟨q+1,_,by go_num,hR⟩);case measure=>simp[intOf];omega);·(have t0:((checkN lib (at' n.kids q) vis).2 !=0)=true:=by simpa using hce);have HF:=Lib.hid (show checkN lib n vis=(false,(checkN lib (at' n.kids q) vis).2)by rw[HE.out,if_neg (by simpa using HRE.out),HCK.out,zbQ hlt,HV.out,if_pos hce,if_pos hce]);have HCE:=Lib.hid hce;clear hce hkp2 hkp hmp hVr2 hnd2 hA2 c0 c1 c2 c3 f2 k0 k1 k2 k3;go_wp2;go_ret2;refine⟨?_,hk3w,fun h=>absurd h ?_⟩;(·rw[HF.out];rfl);·rw[HF.out];exact HCE.out);·(have d84:(n.kind==84)=false:=by simpa using h84);have H84:=Lib.hid h84;clear h84 hbd;go_wp2_with fail;refine(IH.out (at' n.kids q) _ A _ bl bv bf bm _ lib vis _ (HS.out q hlt) hNb (zco HFO.out hlt) hnd2 hVr2).mono ?_;rintro e w3⟨rfl,hk3,hm3⟩;have hk3w:=hkp2.same hk3;have hz3:=hk3.size;simp at hz3;have HM3:=Lib.hid hm3;have d0:=(hk3.cell (p:=⟨w.heap.size,0,none⟩) (by simp;omega) (by simp;omega)).trans ((hA2.cell (p:=⟨w.heap.size,0,none⟩) hzw).trans c0);have d1:=(hk3.cell (p:=⟨w.heap.size,1,none⟩) (by simp;omega) (by simp;omega)).trans ((hA2.cell (p:=⟨w.heap.size,1,none⟩) hzw).trans c1);have d3:=(hk3.cell (p:=⟨w.heap.size,3,none⟩) (by simp;omega) (by simp;omega)).trans ((hA2.cell (p:=⟨w.heap.size,3,none⟩) hzw).trans c3);have d2:=(hk3.cell (p:=⟨w.heap.size,2,none⟩) (by simp;omega) (by simp;omega)).trans ((hA2.cell (p:=⟨w.heap.size,2,none⟩) hzw).trans c2);clear hm3;by_cases hce:(checkN lib (at' n.kids q) vis).2=0;(·have HCE:=Lib.hid hce;(have t0:((checkN lib (at' n.kids q) vis).2 !=0)=false:=by simp[hce]);have hrow3:RowB w3 w.heap.size _ types:=⟨HROW2.out.1,zau HROW2.out.2 hk3 (fun k e=>by have:=(HNE.out k e).2;omega)⟩;have HR3:=Lib.hid hrow3;have hm4:=HM3.out HCE.out;have HM4:=Lib.hid hm4;clear hce hrow3 hm4 hk3 hkp2 hkp hmp hVr2 hnd2 hA2 c0 c1 c2 c3 f2 k0 k1 k2 k3;go_wp2_with(at_builtin;refine zca rfl (.tmp 56) (.tmp 58) rfl rfl rfl rfl HR3.out (by have:=HTL.out;omega) (by omega) ?_);intro v5 w5 h5 hg5 hn5;have hR:=zdr (A:=A) (bl:=bl) (bv:=bv) (bf:=bf) (lv:=.slice la lib.length lc) hlt HTL.out HV.out.symm HCK.out HCE.out hk3w (HM4.out.mono (vbound hst.out)) HNE.out (by omega) hbmw d0 d1 d2 d3 h5 hg5 hn5;obtain⟨a5,c5,rfl⟩:=h5.formLen (q:=q+1) (by rw[List.length_append,HTL.out];rfl);clear h5 hg5 hn5 d0 d1 d2 d3;go_wp2;go_roundw;(case rel=>exact⟨q+1,_,by go_num,hR⟩);case measure=>simp[intOf];omega);·(have t0:((checkN lib (at' n.kids q) vis).2 !=0)=true:=by simpa using hce);have HF:=Lib.hid (show checkN lib n vis=(false,(checkN lib (at' n.kids q) vis).2)by rw[HE.out,if_neg (by simpa using HRE.out),HCK.out,zbQ hlt,HV.out,if_pos hce,if_pos hce]);have HCE:=Lib.hid hce;clear hce hkp2 hkp hmp hVr2 hnd2 hA2 c0 c1 c2 c3 f2 k0 k1 k2 k3;go_wp2;go_ret2;refine⟨?_,hk3w,fun h=>absurd h ?_⟩;(·rw[HF.out];rfl);·rw[HF.out];exact HCE.out);·(obtain rfl:q=n.kids.length:=by omega);have HCL:Hid (checkL lib (decide (n.kind=84)) n.name n.kids 0 [] vis=(types,0)):=Lib.hid (by rw[HCK.out,List.drop_length];rfl);have hmp2:SMapLe Tryz.prog 9 wr bm (visM vis) (N+2*sizeN n):=hmp.mono (by rw[HSE.out,List.take_length];by_cases h84:n.kind=84;(·have:=zdi HFO.out h84;rw[if_pos h84];omega);·rw[if_neg h84];omega);have lv2:=hVr.lcell;have vv2:=hVr.vcell;by_cases h81:n.kind=81;(·(have d81:(n.kind==81)=true:=by simpa using h81);have HF:Hid (checkN lib n vis=((vis n.name).getD false,0)):=Lib.hid (by rw[HE.out,if_neg (by simpa using HRE.out),HCL.out];simp[h81]);have hvg:=Lib.hid (zhp vis n.name);clear h81 hmp;go_wp2_with(refine zbE MB rfl (.tmp 64) (.tmp 66) false rfl rfl rfl hmp2 hsname (r:=.bool ((vis n.name).getD false)) hvg.out ?_);go_ret2;refine⟨?_,hkp,fun _=>hmp2⟩;rw[HF.out];rfl);·(have d81:(n.kind==81)=false:=by simpa using h81);have HF:Hid (checkN lib n vis=resultT lib n.kind n.name types):=Lib.hid (by rw[HE.out,if_neg (by simpa using HRE.out),HCL.out];simp[h81]);clear h81 hmp;have hndr:NdAt A wr (.agg #[.int .u8 n.kind,.int .i64 n.num,.string n.name,.slice ka n.kids.length kc]) n:=zhb hv hkp hV.apart;go_wp2_with fail;by_cases h85:n.kind=85;(·(have hre85:¬findF lib n.name<0∧n.kids.length=(fnAt lib (findF lib n.name)).params.length:=by have:=HRE.out;unfold reachE at this;rw[if_neg (by omega),if_neg (by omega),if_pos h85]at this;by_cases h0:findF lib n.name<0;(·rw[if_pos h0]at this;omega);·rw[if_neg h0]at this;refine⟨h0,?_⟩;apply Classical.byContradiction;intro hne;rw[if_pos hne]at this;omega);have hkl:=zbT n.kids;have hse:=HSE.out;refine(zgy _ _ lib _ n types A wr hVr.lib HROW.out.bools hndr h85 (by omega) (by omega)).mono ?_;rintro e w6⟨rfl,hb6⟩;clear h85 hre85 hkl hse;go_wp2;go_ret2;refine⟨?_,hkp.same (Keeps.of_below _ hb6),fun _=>hmp2.below hb6⟩;rw[HF.out];rfl);·refine(zeY _ _ lib _ n types A wr HROW.out.bools hndr h85 (by intro h;(have hk2:2≤n.kids.length:=by have:=HFO.out;rw[zcn,Bool.and_eq_true]at this;have hf:=this.1;rcases h with h|h;(·rw[h]at hf;simp[formB]at hf;omega);·rw[h]at hf;simp[formB]at hf;omega);have:=HTL.out;omega)).mono ?_;rintro e w6⟨rfl,hb6⟩;go_wp2;go_ret2;refine⟨?_,hkp.same (Keeps.of_below _ hb6),fun _=>hmp2.below hb6⟩;rw[HF.out];rfl);·have HRE:=Lib.hid hre;(have hd:(reachE lib vis n.kind n.name n.kids.length !=0)=true:=by simpa using hre);clear hre;go_enter Tryz.func122,Tryz.ntmps122;go_wp2_with fail;refine(zfQ _ lib bm N vis _ n A _ hVA.lib hVA.map hvA).mono ?_;rintro e w1⟨rfl,hb1⟩;go_wp2;go_ret2;(have hc:checkN lib n vis=(false,reachE lib vis n.kind n.name n.kids.length):=by rw[HE.out,if_pos HRE.out]);refine⟨?_,Keeps.of_below _ (hA.trans (hb1.mono (by simp))),fun h=>absurd h ?_⟩;(·rw[hc];rfl);·rw[hc];exact HRE.out
def Old(A:Nat→Prop)(w:World):Nat→Prop:=fun k=>A k∧k<w.heap.size
theorem zeb(h:Below w.heap.size w w'):Stays A (Old A w) w w':=⟨h.size,fun b hb ha=>⟨h.block b hb,ha,hb⟩⟩
theorem four0(w:World)(a b c d:Obj):((((w.alloc a).alloc b).alloc c).alloc d).heap[w.heap.size]?=some a:=by rw[Below.heap_alloc _ _ _ (by simp;omega),Below.heap_alloc _ _ _ (by simp;omega),Below.heap_alloc _ _ _ (by simp)];exact heap_alloc_new w a
theorem four1(w:World)(a b c d:Obj):((((w.alloc a).alloc b).alloc c).alloc d).heap[w.heap.size+1]?=some b:=by rw[Below.heap_alloc _ _ _ (by simp)];exact zlw w a b c
theorem four3(w:World)(a b c d:Obj):((((w.alloc a).alloc b).alloc c).alloc d).heap[w.heap.size+1+1+1]?=some d:=by have:=heap_alloc_new (((w.alloc a).alloc b).alloc c) d;simpa using this
theorem zae{b:Nat}{arr:Array Value}{t:TypeId}(h:w.heap[b]?=some (.cells arr t (0,0)))(i:Nat){x:Value}(hx:arr[i]?=some x):w.cell? ⟨b,i,none⟩=some x:=by simp[World.cell?,h,hx]
theorem zhY(l:List Par)(k:Nat)(h:k<l.length):parsV (l.take (k+1))=(parsV (l.take k)).put (at' l k).name (at' l k).list:=by rw[List.take_add_one,List.getElem?_eq_getElem h,parsV,parsV,List.foldl_append,zam h];rfl
theorem zix(lv pv v:Value)(lib:List Fn)(l:List Par)(n:Nd)(A:Nat→Prop)(w:World)(hl:FnsAt A w lv lib)(hp:ParsAt A w pv l)(hv:NdAt A w v n)(hform:formedN n=true)(hsz:sizeN n≤20000)(hpl:l.length≤1000):Calls Tryz.prog 104 #[lv,pv,v] w fun e w'=>e=.returned (.tuple #[.bool (checkN lib n (parsV l)).1,.int .i64 (checkN lib n (parsV l)).2])∧Below w.heap.size w w':=by
 obtain⟨hok,hlen,ka,kc,rfl,hk⟩:=hv.open;obtain⟨_,la,lc,rfl⟩:=hl.form;obtain⟨_,pa,pc,rfl⟩:=hp.form;have HFO:=Lib.hid hform;clear hform;have hmm:=@run_makeMap Tryz.prog;have hW:Below w.heap.size w ((((w.alloc (.cells #[.slice la lib.length lc] 22)).alloc (.cells #[.int .u8 n.kind,.int .i64 n.num,.string n.name,.slice ka n.kids.length kc] 30)).alloc (.map #[] 0)).alloc (.cells #[.map (some (w.heap.size+1+1))] 161)):=((((Below.refl _ _).alloc (Nat.le_refl _) _).alloc (by simp) _).alloc (by simp;omega) _).alloc (by simp;omega) _;have hm0:SMapLe Tryz.prog 9 ((((w.alloc (.cells #[.slice la lib.length lc] 22)).alloc (.cells #[.int .u8 n.kind,.int .i64 n.num,.string n.name,.slice ka n.kids.length kc] 30)).alloc (.map #[] 0)).alloc (.cells #[.map (some (w.heap.size+1+1))] 161)) (w.heap.size+1+1) (visM (parsV (l.take 0))) 0:=by have:=(SMapLe.made Tryz.prog 9 ((w.alloc (.cells #[.slice la lib.length lc] 22)).alloc (.cells #[.int .u8 n.kind,.int .i64 n.num,.string n.name,.slice ka n.kids.length kc] 30))).below ((Below.refl _ _).alloc (Nat.le_refl _) (.cells #[.map (some (w.heap.size+1+1))] 161));simp at this;exact this
 have q0:((((w.alloc (.cells #[.slice la lib.length lc] 22)).alloc (.cells #[.int .u8 n.kind,.int .i64 n.num,.string n.name,.slice ka n.kids.length kc] 30)).alloc (.map #[] 0)).alloc (.cells #[.map (some (w.heap.size+1+1))] 161)).cell? ⟨w.heap.size,0,none⟩=some (.slice la lib.length lc):=zae (four0 _ _ _ _ _) 0 rfl;have n0:((((w.alloc (.cells #[.slice la lib.length lc] 22)).alloc (.cells #[.int .u8 n.kind,.int .i64 n.num,.string n.name,.slice ka n.kids.length kc] 30)).alloc (.map #[] 0)).alloc (.cells #[.map (some (w.heap.size+1+1))] 161)).cell? ⟨w.heap.size+1,0,none⟩=some (.int .u8 n.kind):=zae (four1 _ _ _ _ _) 0 rfl;have n1:((((w.alloc (.cells #[.slice la lib.length lc] 22)).alloc (.cells #[.int .u8 n.kind,.int .i64 n.num,.string n.name,.slice ka n.kids.length kc] 30)).alloc (.map #[] 0)).alloc (.cells #[.map (some (w.heap.size+1+1))] 161)).cell? ⟨w.heap.size+1,1,none⟩=some (.int .i64 n.num):=zae (four1 _ _ _ _ _) 1 rfl;have n2:((((w.alloc (.cells #[.slice la lib.length lc] 22)).alloc (.cells #[.int .u8 n.kind,.int .i64 n.num,.string n.name,.slice ka n.kids.length kc] 30)).alloc (.map #[] 0)).alloc (.cells #[.map (some (w.heap.size+1+1))] 161)).cell? ⟨w.heap.size+1,2,none⟩=some (.string n.name):=zae (four1 _ _ _ _ _) 2 rfl;have n3:((((w.alloc (.cells #[.slice la lib.length lc] 22)).alloc (.cells #[.int .u8 n.kind,.int .i64 n.num,.string n.name,.slice ka n.kids.length kc] 30)).alloc (.map #[] 0)).alloc (.cells #[.map (some (w.heap.size+1+1))] 161)).cell? ⟨w.heap.size+1,3,none⟩=some (.slice ka n.kids.length kc):=zae (four1 _ _ _ _ _) 3 rfl;have q3:((((w.alloc (.cells #[.slice la lib.length lc] 22)).alloc (.cells #[.int .u8 n.kind,.int .i64 n.num,.string n.name,.slice ka n.kids.length kc] 30)).alloc (.map #[] 0)).alloc (.cells #[.map (some (w.heap.size+1+1))] 161)).cell? ⟨w.heap.size+1+1+1,0,none⟩=some (.map (some (w.heap.size+1+1))):=zae (four3 _ _ _ _ _) 0 rfl;have HWS:Hid (((((w.alloc (.cells #[.slice la lib.length lc] 22)).alloc (.cells #[.int .u8 n.kind,.int .i64 n.num,.string n.name,.slice ka n.kids.length kc] 30)).alloc (.map #[] 0)).alloc (.cells #[.map (some (w.heap.size+1+1))] 161)).heap.size=w.heap.size+4):=Lib.hid (by simp);go_enter Tryz.func104,Tryz.ntmps104;go_wp2;clear hmm;generalize((((w.alloc (.cells #[.slice la lib.length lc] 22)).alloc (.cells #[.int .u8 n.kind,.int .i64 n.num,.string n.name,.slice ka n.kids.length kc] 30)).alloc (.map #[] 0)).alloc (.cells #[.map (some (w.heap.size+1+1))] 161))=W at*;go_loopw[15](fun i wr=>∃k:Nat,i=.int .i64 k∧k≤l.length∧Keeps W wr (fun j=>j=w.heap.size+1+1)∧SMapLe Tryz.prog 9 wr (w.heap.size+1+1) (visM (parsV (l.take k))) k)(fun i _=>l.length-(intOf i).toNat);case atStart=>exact⟨0,rfl,Nat.zero_le _,Keeps.refl _ _,hm0⟩
 case round=>clear hm0;obtain⟨k,rfl,hk1,hkp,hm⟩:=hrel;have hws:=HWS.out;have hzk:=hkp.size;have v3:=(hkp.cell (p:=⟨w.heap.size+1+1+1,0,none⟩) (by simp;omega) (by simp;try omega)).trans q3;have hbl:Below w.heap.size w wr:=hW.trans (hkp.below (fun j e=>by omega) (by omega));by_cases hlt:k<l.length;(·obtain⟨b,off,cap',he,hb,_,_,c0,c1,hs⟩:=(hp.stays (Stays.of_below hbl)).at hlt;simp only[Value.slice.injEq]at he;obtain⟨rfl,-,rfl⟩:=he;have hmA:=hm.below ((Below.refl _ _).alloc (Nat.le_refl _) (.cells #[.string (at' l k).name,.bool (at' l k).list] 71));have HPV:=Lib.hid (zhY l k hlt);have v3A:(wr.alloc (.cells #[.string (at' l k).name,.bool (at' l k).list] 71)).cell? ⟨w.heap.size+1+1+1,0,none⟩=some (.map (some (w.heap.size+1+1))):=(((Below.refl _ _).alloc (Nat.le_refl _) _).cell (p:=⟨w.heap.size+1+1+1,0,none⟩) (by simp;omega)).trans v3;have hkp2:=hkp.alloc (.cells #[.string (at' l k).name,.bool (at' l k).list] 71);clear hws hm;go_wp2_with(refine zff MB rfl (.tmp 19) (.tmp 21) _ (.inr rfl) rfl rfl rfl hmA hs (by unfold maxLen;omega) ?_;intro w3 hm3 hg3;have hm4:=hm3.ext (zhq (parsV (l.take k)) (at' l k).name (at' l k).list);have hkp3:=hkp2.same (Keeps.of_grown hg3 (fun j e=>.inl (by simpa using e.symm))));go_roundw;(case rel=>exact⟨k+1,by go_num,by omega,hkp3,by rw[HPV.out];exact hm4⟩);case measure=>simp[intOf];omega);·(obtain rfl:k=l.length:=by omega);rw[List.take_length]at hm;have e0:=(hkp.cell (p:=⟨w.heap.size,0,none⟩) (by simp;omega) (by simp;try omega)).trans q0;have m0:=(hkp.cell (p:=⟨w.heap.size+1,0,none⟩) (by simp;omega) (by simp;try omega)).trans n0;have m1:=(hkp.cell (p:=⟨w.heap.size+1,1,none⟩) (by simp;omega) (by simp;try omega)).trans n1;have m2:=(hkp.cell (p:=⟨w.heap.size+1,2,none⟩) (by simp;omega) (by simp;try omega)).trans n2;have m3:=(hkp.cell (p:=⟨w.heap.size+1,3,none⟩) (by simp;omega) (by simp;try omega)).trans n3;have hmf:∀(fn:Go.Fn)(first cap:Array Value)(w:World),(Instr.makeFunc fn first cap).run Tryz.prog w=.ok (.func fn first cap) w:=fun _ _ _ _=>rfl;have hA:Below wr.heap.size wr (wr.alloc (.cells #[.func (.func 122) #[] #[.pointer (some ⟨w.heap.size,0,none⟩),.pointer (some ⟨w.heap.size+1+1+1,0,none⟩),.pointer (some ⟨wr.heap.size,0,none⟩)]] 162)):=(Below.refl _ _).alloc (Nat.le_refl _) _;have hblA:=hbl.trans (hA.mono (by omega));(have hlo:w.heap.size+4≤wr.heap.size:=by omega);have hVA:VisAt (Old A w) (wr.alloc (.cells #[.func (.func 122) #[] #[.pointer (some ⟨w.heap.size,0,none⟩),.pointer (some ⟨w.heap.size+1+1+1,0,none⟩),.pointer (some ⟨wr.heap.size,0,none⟩)]] 162)) w.heap.size (w.heap.size+1+1+1) wr.heap.size (w.heap.size+1+1) l.length lib (parsV l) (.slice la lib.length lc):=⟨(hA.cell (p:=⟨w.heap.size,0,none⟩) (by simp;omega)).trans e0,(hA.cell (p:=⟨w.heap.size+1+1+1,0,none⟩) (by simp;omega)).trans v3,by simp,⟨by simp;omega,by omega⟩,⟨by simp;omega,by omega⟩,⟨by simp,by omega⟩,hm.below hA,hl.stays (zeb hblA),fun h=>by have:=h.2;omega⟩;have hndA:=hv.stays (zeb (A:=A) hblA);have o0:=(hA.cell (p:=⟨w.heap.size+1,0,none⟩) (by simp;omega)).trans m0;have o1:=(hA.cell (p:=⟨w.heap.size+1,1,none⟩) (by simp;omega)).trans m1;have o2:=(hA.cell (p:=⟨w.heap.size+1,2,none⟩) (by simp;omega)).trans m2;have o3:=(hA.cell (p:=⟨w.heap.size+1,3,none⟩) (by simp;omega)).trans m3;clear q0 n0 n1 n2 n3 q3;go_wp2_with fail;refine(zij (sizeN n) n _ (Old A w) _ w.heap.size (w.heap.size+1+1+1) wr.heap.size (w.heap.size+1+1) l.length lib (parsV l) _ (Nat.le_refl _) (by omega) HFO.out hndA hVA).mono ?_;rintro e w5⟨rfl,hk5,_⟩;have hB5:Below w.heap.size w w5:=hblA.trans (hk5.below (fun j e=>by omega) (by simp;omega));clear hVA hndA hA hblA;go_wp2;go_ret2;exact⟨rfl,hB5⟩
def Modest(lib:List Fn):Prop:=∀j,j<lib.length→sizeN (at' lib j).body≤20000
theorem zft(lv:Value)(lib:List Fn)(i:Nat)(A:Nat→Prop)(w:World)(hl:FnsAt A w lv lib)(hi:i<lib.length)(hmod:Modest lib):Calls Tryz.prog 58 #[lv,.int .i64 i] w fun e w'=>e=.returned (.int .i64 (fnE lib i))∧Below w.heap.size w w':=by
 obtain⟨hll,la,lc,rfl⟩:=hl.form;unfold maxLen at hll;obtain⟨b,off,cap',pa,pc,ka,kc,he,hb,_,_,c0,c1,c2,c3,c4,c5,c6,hs,hp,hn⟩:=hl.at hi;simp only[Value.slice.injEq]at he;obtain⟨rfl,-,rfl⟩:=he;have hm:=hmod i hi;clear hmod;generalize hf:at' lib i=f at*;have HF:=Lib.hid hf;clear hf;have HE:Hid (fnE lib i=if 30≤i then 5 else if !nameB f.name then 3 else if findF lib f.name<i then 22 else if parsE f.params≠0 then parsE f.params else if !formedN f.body then 3 else if 80<depthN f.body then 19 else if 2000<sizeN f.body then 5 else if(checkN lib f.body (parsV f.params)).2≠0 then(checkN lib f.body (parsV f.params)).2 else if(checkN lib f.body (parsV f.params)).1≠f.list then 7 else 0):=Lib.hid (by rw[←HF.out];rfl);have b0:(0:Int)≤(i:Int):=by omega
 have b1:(i:Int)<(lib.length:Int):=by omega
 have hA:Below w.heap.size w (w.alloc (.cells #[.string f.name,.slice pa f.params.length pc,.bool f.list,.int .u8 f.body.kind,.int .i64 f.body.num,.string f.body.name,.slice ka f.body.kids.length kc] 51)):=(Below.refl _ _).alloc (Nat.le_refl _) _;by_cases h30:30≤i;·(have d1:decide (30≤(i:Int))=true:=by simp;omega);go_enter Tryz.func58,Tryz.ntmps58;go_wp2;go_ret;rw[HE.out,if_pos h30];exact⟨rfl,hA⟩
 ·(have d1:decide (30≤(i:Int))=false:=by simp;omega);go_enter Tryz.func58,Tryz.ntmps58;go_wp2_with fail;refine(zdm f.name _ hs).mono ?_;rintro e w1⟨rfl,hb1⟩;have hB1:Below w.heap.size w w1:=hA.trans (hb1.mono (by simp));have hz1:=hB1.size;have hz1':=hb1.size;simp at hz1';have x0:w1.cell? ⟨w.heap.size,0,none⟩=some (.string f.name):=(hb1.cell (p:=⟨w.heap.size,0,none⟩) (by simp)).trans (by simp);have x1:w1.cell? ⟨w.heap.size,1,none⟩=some (.slice pa f.params.length pc):=(hb1.cell (p:=⟨w.heap.size,1,none⟩) (by simp)).trans (by simp);have x2:w1.cell? ⟨w.heap.size,2,none⟩=some (.bool f.list):=(hb1.cell (p:=⟨w.heap.size,2,none⟩) (by simp)).trans (by simp);have x3:w1.cell? ⟨w.heap.size,3,none⟩=some (.int .u8 f.body.kind):=(hb1.cell (p:=⟨w.heap.size,3,none⟩) (by simp)).trans (by simp);have x4:w1.cell? ⟨w.heap.size,4,none⟩=some (.int .i64 f.body.num):=(hb1.cell (p:=⟨w.heap.size,4,none⟩) (by simp)).trans (by simp);have x5:w1.cell? ⟨w.heap.size,5,none⟩=some (.string f.body.name):=(hb1.cell (p:=⟨w.heap.size,5,none⟩) (by simp)).trans (by simp);have x6:w1.cell? ⟨w.heap.size,6,none⟩=some (.slice ka f.body.kids.length kc):=(hb1.cell (p:=⟨w.heap.size,6,none⟩) (by simp)).trans (by simp);clear c0 c1 c2 c3 c4 c5 c6 hA hb1;cases hnm:nameB f.name with|false=>have HN:=Lib.hid hnm;clear hnm;go_wp2;go_ret;rw[HE.out,if_neg h30,HN.out];exact⟨rfl,hB1⟩|true=>have HN:=Lib.hid hnm;clear hnm;go_wp2_with fail;refine(zbk _ lib f.name A w1 (hl.stays (Stays.of_below hB1))).mono ?_;rintro e w2⟨rfl,hb2⟩;have hB2:Below w.heap.size w w2:=hB1.trans (hb2.mono hz1);have hz2:=hb2.size;have y1:=(hb2.cell (p:=⟨w.heap.size,1,none⟩) (by simp;omega)).trans x1;have y2:=(hb2.cell (p:=⟨w.heap.size,2,none⟩) (by simp;omega)).trans x2;have y3:=(hb2.cell (p:=⟨w.heap.size,3,none⟩) (by simp;omega)).trans x3;have y4:=(hb2.cell (p:=⟨w.heap.size,4,none⟩) (by simp;omega)).trans x4;have y5:=(hb2.cell (p:=⟨w.heap.size,5,none⟩) (by simp;omega)).trans x5;have y6:=(hb2.cell (p:=⟨w.heap.size,6,none⟩) (by simp;omega)).trans x6;clear x0 x1 x2 x3 x4 x5 x6 hb2 hB1;by_cases hfi:findF lib f.name<i;(·(have d2:decide (findF lib f.name<(i:Int))=true:=by simpa using hfi);have HFI:=Lib.hid hfi;clear hfi;go_wp2;go_ret;rw[HE.out,if_neg h30,HN.out,if_neg (by simp),if_pos HFI.out];exact⟨rfl,hB2⟩);·(have d2:decide (findF lib f.name<(i:Int))=false:=by simpa using hfi);have HFI:=Lib.hid hfi;clear hfi;go_wp2_with fail;refine(zek _ f.params A w2 (hp.stays (Stays.of_below hB2))).mono ?_;rintro e w3⟨rfl,hb3⟩;have hz2w:=hB2.size;have hB3:Below w.heap.size w w3:=hB2.trans (hb3.mono hz2w);have hz3:=hb3.size;have z1:=(hb3.cell (p:=⟨w.heap.size,1,none⟩) (by simp;omega)).trans y1;have z2:=(hb3.cell (p:=⟨w.heap.size,2,none⟩) (by simp;omega)).trans y2;have z3:=(hb3.cell (p:=⟨w.heap.size,3,none⟩) (by simp;omega)).trans y3;have z4:=(hb3.cell (p:=⟨w.heap.size,4,none⟩) (by simp;omega)).trans y4;have z5:=(hb3.cell (p:=⟨w.heap.size,5,none⟩) (by simp;omega)).trans y5;have z6:=(hb3.cell (p:=⟨w.heap.size,6,none⟩) (by simp;omega)).trans y6;clear y1 y2 y3 y4 y5 y6 hb3 hB2;by_cases hpe:parsE f.params=0;(·(have t0:(parsE f.params !=0)=false:=by simp[hpe]);(have hpl:f.params.length≤8:=by apply Classical.byContradiction;intro h;rw[parsE,if_pos (by omega)]at hpe;exact absurd hpe (by decide));have HPE:=Lib.hid hpe;clear hpe;go_wp2_with fail;refine(zhI f.body _ A w3 (hn.stays (Stays.of_below hB3))).mono ?_;rintro e w4⟨rfl,hb4⟩;have hz3w:=hB3.size;have hB4:Below w.heap.size w w4:=hB3.trans (hb4.mono hz3w);have hz4:=hb4.size;have y1:=(hb4.cell (p:=⟨w.heap.size,1,none⟩) (by simp;omega)).trans z1;have y2:=(hb4.cell (p:=⟨w.heap.size,2,none⟩) (by simp;omega)).trans z2;have y3:=(hb4.cell (p:=⟨w.heap.size,3,none⟩) (by simp;omega)).trans z3;have y4:=(hb4.cell (p:=⟨w.heap.size,4,none⟩) (by simp;omega)).trans z4;have y5:=(hb4.cell (p:=⟨w.heap.size,5,none⟩) (by simp;omega)).trans z5;have y6:=(hb4.cell (p:=⟨w.heap.size,6,none⟩) (by simp;omega)).trans z6;clear z1 z2 z3 z4 z5 z6 hb4 hB3;cases hfo:formedN f.body with|false=>have HFO:=Lib.hid hfo;clear hfo;go_wp2;go_ret;rw[HE.out,if_neg h30,HN.out,if_neg (by simp),if_neg (by have:=HFI.out;omega),if_neg (by simpa using HPE.out),HFO.out];exact⟨rfl,hB4⟩|true=>have HFO:=Lib.hid hfo;clear hfo;go_wp2_with fail;refine(zfN (sizeN f.body) f.body _ A w4 (Nat.le_refl _) (by omega) (hn.stays (Stays.of_below hB4))).mono ?_;rintro e w5⟨rfl,hb5⟩;have hz4w:=hB4.size;have hB5:Below w.heap.size w w5:=hB4.trans (hb5.mono hz4w);have hz5:=hb5.size;have z1:=(hb5.cell (p:=⟨w.heap.size,1,none⟩) (by simp;omega)).trans y1;have z2:=(hb5.cell (p:=⟨w.heap.size,2,none⟩) (by simp;omega)).trans y2;have z3:=(hb5.cell (p:=⟨w.heap.size,3,none⟩) (by simp;omega)).trans y3;have z4:=(hb5.cell (p:=⟨w.heap.size,4,none⟩) (by simp;omega)).trans y4;have z5:=(hb5.cell (p:=⟨w.heap.size,5,none⟩) (by simp;omega)).trans y5;have z6:=(hb5.cell (p:=⟨w.heap.size,6,none⟩) (by simp;omega)).trans y6;clear y1 y2 y3 y4 y5 y6 hb5 hB4;by_cases hd80:80<depthN f.body;(·(have t1:decide (80<(depthN f.body:Int))=true:=by simp;omega);go_wp2;go_ret;rw[HE.out,if_neg h30,HN.out,if_neg (by simp),if_neg (by have:=HFI.out;omega),if_neg (by simpa using HPE.out),HFO.out,if_neg (by simp),if_pos hd80];exact⟨rfl,hB5⟩);·(have t1:decide (80<(depthN f.body:Int))=false:=by simp;omega);by_cases hs2:2000<sizeN f.body;(·(have t2:decide (2000<(sizeN f.body:Int))=true:=by simp;omega);go_wp2;go_ret;rw[HE.out,if_neg h30,HN.out,if_neg (by simp),if_neg (by have:=HFI.out;omega),if_neg (by simpa using HPE.out),HFO.out,if_neg (by simp),if_neg hd80,if_pos hs2];exact⟨rfl,hB5⟩);·(have t2:decide (2000<(sizeN f.body:Int))=false:=by simp;omega);go_wp2_with fail;refine(zix _ _ _ lib f.params f.body A w5 (hl.stays (Stays.of_below hB5)) (hp.stays (Stays.of_below hB5)) (hn.stays (Stays.of_below hB5)) HFO.out (by omega) (by omega)).mono ?_;rintro e w6⟨rfl,hb6⟩;have hz5w:=hB5.size;have hB6:Below w.heap.size w w6:=hB5.trans (hb6.mono hz5w);have y2:=(hb6.cell (p:=⟨w.heap.size,2,none⟩) (by simp;omega)).trans z2;clear z1 z2 z3 z4 z5 z6 hb6 hB5;by_cases hce:(checkN lib f.body (parsV f.params)).2=0;(·(have t3:((checkN lib f.body (parsV f.params)).2 !=0)=false:=by simp[hce]);have HCE:=Lib.hid hce;clear hce;by_cases hli:(checkN lib f.body (parsV f.params)).1=f.list;(·(have t4:(!((checkN lib f.body (parsV f.params)).1==f.list))=false:=by simp[hli]);have HLI:=Lib.hid hli;clear hli;go_wp2;go_ret;rw[HE.out,if_neg h30,HN.out,if_neg (by simp),if_neg (by have:=HFI.out;omega),if_neg (by simpa using HPE.out),HFO.out,if_neg (by simp),if_neg hd80,if_neg hs2,if_neg (by simpa using HCE.out),if_neg (by simpa using HLI.out)];exact⟨rfl,hB6⟩);·(have t4:(!((checkN lib f.body (parsV f.params)).1==f.list))=true:=by simp[hli]);have HLI:=Lib.hid hli;clear hli;go_wp2;go_ret;rw[HE.out,if_neg h30,HN.out,if_neg (by simp),if_neg (by have:=HFI.out;omega),if_neg (by simpa using HPE.out),HFO.out,if_neg (by simp),if_neg hd80,if_neg hs2,if_neg (by simpa using HCE.out),if_pos HLI.out];exact⟨rfl,hB6⟩);·(have t3:((checkN lib f.body (parsV f.params)).2 !=0)=true:=by simpa using hce);have HCE:=Lib.hid hce;clear hce;go_wp2;go_ret;rw[HE.out,if_neg h30,HN.out,if_neg (by simp),if_neg (by have:=HFI.out;omega),if_neg (by simpa using HPE.out),HFO.out,if_neg (by simp),if_neg hd80,if_neg hs2,if_pos HCE.out];exact⟨rfl,hB6⟩);·(have t0:(parsE f.params !=0)=true:=by simpa using hpe);have HPE:=Lib.hid hpe;clear hpe;go_wp2;go_ret;rw[HE.out,if_neg h30,HN.out,if_neg (by simp),if_neg (by have:=HFI.out;omega),if_pos HPE.out];exact⟨rfl,hB3⟩
theorem zel(lib:List Fn):∀(m i k:Nat),(∀j,i≤j→j<k→fnE lib j=0)→i≤k→k≤i+m→validFrom lib m i=validFrom lib (m-(k-i)) k|m,i,k,h,h1,h2=>by induction m generalizing i with|zero=>(obtain rfl:k=i:=by omega);simp|succ m ih=>by_cases e:i=k;(·subst e;simp);·rw[validFrom,if_neg (by simpa using h i (Nat.le_refl _) (by omega)),ih (i+1) (fun j hj hk=>h j (by omega) hk) (by omega) (by omega)];congr 1;omega
theorem zbO(lv:Value)(lib:List Fn)(A:Nat→Prop)(w:World)(hl:FnsAt A w lv lib)(hmod:Modest lib):Calls Tryz.prog 16 #[lv] w fun e w'=>e=.returned (.tuple #[.int .i64 (validE lib).1,.int .i64 (validE lib).2])∧Below w.heap.size w w':=by
 obtain⟨hll,la,lc,rfl⟩:=hl.form;unfold maxLen at hll;have HM:=Lib.hid hmod;clear hmod;go_enter Tryz.func16,Tryz.ntmps16;go_wp2;go_loopw[8,4](fun i _ wr=>∃k:Nat,k≤lib.length∧i=.int .i64 k∧(∀j,j<k→fnE lib j=0)∧Below w.heap.size w wr)(fun i _ _=>lib.length-(intOf i).toNat);case atStart=>exact⟨0,Nat.zero_le _,rfl,fun j hj=>absurd hj (by omega),Below.refl _ _⟩
 case round=>obtain⟨k,hk,rfl,hno,hbl⟩:=hrel;have HN:=Lib.hid hno;clear hno;have hz:=hbl.size;have hV:=Lib.hid (zel lib lib.length 0 k (fun j _ hj=>HN.out j hj) (by omega) (by omega));by_cases hlt:k<lib.length;(·go_wp2_with fail;refine(zft _ lib k A wr (hl.stays (Stays.of_below hbl)) hlt HM.out).mono ?_;rintro e w1⟨rfl,hb1⟩;have hB1:Below w.heap.size w w1:=hbl.trans (hb1.mono hz);by_cases he:fnE lib k=0;(·(have t0:(fnE lib k !=0)=false:=by simp[he]);have HE:=Lib.hid he;clear he;go_wp2;go_roundw;(case rel=>exact⟨k+1,by omega,by go_num,fun j hj=>(by by_cases e:j=k;(·rw[e];exact HE.out);·exact HN.out j (by omega)),hB1⟩);case measure=>simp[intOf];omega);·(have t0:(fnE lib k !=0)=true:=by simpa using he);have HE:=Lib.hid he;clear he;go_wp2;go_ret2;(have hr:validE lib=((k:Int),fnE lib k):=by rw[validE,hV.out,show lib.length-(k-0)=(lib.length-k-1)+1 by omega,validFrom,if_pos HE.out]);rw[hr];exact⟨rfl,hB1⟩);·go_wp2;go_ret2;(have hr:validE lib=(-1,0):=by rw[validE,hV.out,show lib.length-(k-0)=0 by omega];rfl);rw[hr];exact⟨rfl,hbl⟩
inductive Bd where
 | mk (to:ByteArray) (list:Bool) (op num:Int) (name:ByteArray) (args:List ByteArray) (thn els:List Bd)
instance:Inhabited Bd:=⟨.mk ByteArray.empty false 0 0 ByteArray.empty [] [] []⟩
def Bd.to:Bd→ByteArray|.mk a _ _ _ _ _ _ _=>a
def Bd.list:Bd→Bool|.mk _ a _ _ _ _ _ _=>a
def Bd.op:Bd→Int|.mk _ _ a _ _ _ _ _=>a
def Bd.num:Bd→Int|.mk _ _ _ a _ _ _ _=>a
def Bd.name:Bd→ByteArray|.mk _ _ _ _ a _ _ _=>a
def Bd.args:Bd→List ByteArray|.mk _ _ _ _ _ a _ _=>a
def Bd.thn:Bd→List Bd|.mk _ _ _ _ _ _ a _=>a
def Bd.els:Bd→List Bd|.mk _ _ _ _ _ _ _ a=>a
structure AFn where
 name:ByteArray
 params:List Par
 list:Bool
 temps:List Par
 body:List Bd
 result:ByteArray
instance:Inhabited AFn:=⟨⟨ByteArray.empty,[],false,[],[],ByteArray.empty⟩⟩
abbrev Env:=ByteArray→Option Par
def Env.put(v:Env)(s:ByteArray)(p:Par):Env:=fun y=>if y=s then some p else v y
def tname(i:Nat):ByteArray:=⟨(116::Lib.decDigits i).toArray⟩
def setTy(ts:List Par)(i:Nat)(b:Bool):List Par:=ts.set i ⟨(at' ts i).name,b⟩
def namesN:Nat→Nd→Bool|0,n=>decide (n.kind=81)|d+1,n=>if n.kind=84 then namesN d (at' n.kids 1)else decide (n.kind=81)
def opList(k:Int):Bool:=decide (k=86)||(decide (k=87)||decide (k=89))
structure XR where
 ts:List Par
 bs:List Bd
 par:Par
 env:Env
structure YR where
 ts:List Par
 bs:List Bd
 args:List ByteArray
 env:Env
def Env.cut(v:Env)(s:ByteArray):Env:=fun y=>if y=s then none else v y
def varB(to:ByteArray)(list:Bool)(x:ByteArray):Bd:=.mk to list 81 0 ByteArray.empty [x] [] []
mutual
def exprN (lib:List Fn):Nd→Env→List Par→XR
 | .mk k num name kids,env,ts=>
   if k=81 then ⟨ts,[],(env name).getD default,env⟩
   else if k=84 then
    match kids with
    | [a,b]=>
      let x:=exprN lib a env ts
      let y:=exprN lib b (x.env.put name x.par) x.ts
      ⟨y.ts,x.bs ++ y.bs,y.par,y.env.cut name⟩
    | _=>⟨ts,[],default,env⟩
   else if k=83 then
    match kids with
    | [c,a,b]=>
      let x:=exprN lib c env ts
      let i:=x.ts.length
      let y:=exprN lib a x.env (x.ts ++ [⟨tname i,false⟩])
      let ts1:=setTy y.ts i y.par.list
      let z:=exprN lib b y.env ts1
      let ts2:=setTy z.ts i z.par.list
      let t1:=at' ts1 i
      let t2:=at' ts2 i
      ⟨ts2,x.bs ++ [.mk t2.name t2.list 83 0 ByteArray.empty [x.par.name] (y.bs ++ [varB t1.name t1.list y.par.name]) (z.bs ++ [varB t2.name t2.list z.par.name])],t2,z.env⟩
    | _=>⟨ts,[],default,env⟩
   else
    let r:=argsN lib (decide (k=85)) kids env ts
    let list:=if k=85 then (fnAt lib (findF lib name)).list else opList k
    let t:Par:=⟨tname r.ts.length,list⟩
    ⟨r.ts ++ [t],r.bs ++ [.mk t.name list k (if k=85 then 0 else num) (if k=85 then name else ByteArray.empty) r.args [] []],t,r.env⟩
def argsN (lib:List Fn) (call:Bool):List Nd→Env→List Par→YR
 | [],env,ts=>⟨ts,[],[],env⟩
 | n :: r,env,ts=>
   let x:=exprN lib n env ts
   if call && namesN (sizeN n) n then
    let z:=argsN lib call r x.env (x.ts ++ [⟨tname x.ts.length,x.par.list⟩])
    ⟨z.ts,x.bs ++ varB (tname x.ts.length) x.par.list x.par.name :: z.bs,tname x.ts.length :: z.args,z.env⟩
   else
    let z:=argsN lib call r x.env x.ts
    ⟨z.ts,x.bs ++ z.bs,x.par.name :: z.args,z.env⟩
end
def parsEnv(l:List Par):Env:=l.foldl (fun v p=>v.put p.name p) (fun _=>none)
def normF(lib:List Fn)(f:Fn):AFn:=let x:=exprN lib f.body (parsEnv f.params) [];⟨f.name,f.params,f.list,x.ts,x.bs,x.par.name⟩
def normL(lib:List Fn):List AFn:=lib.map (normF lib)
theorem zaR(ts:List Par)(i:Nat)(b:Bool):(setTy ts i b).length=ts.length:=by simp[setTy]
mutual
theorem zaw (lib:List Fn):∀ (n:Nd) (env:Env) (ts:List Par),ts.length≤(exprN lib n env ts).ts.length∧(exprN lib n env ts).ts.length+1≤ts.length+2 * sizeN n∧(exprN lib n env ts).bs.length+1≤2 * sizeN n
 | .mk k num name kids,env,ts=>by
   unfold exprN
   rw [sizeN]
   split
   · exact ⟨Nat.le_refl _,by simp only [];omega,by simp only [List.length_nil];omega⟩
   · split
     · split
       · rename_i a b
         have ha:=zaw lib a env ts
         have hb:=zaw lib b ((exprN lib a env ts).env.put name (exprN lib a env ts).par) (exprN lib a env ts).ts
         simp only [sizeL,List.length_append]
         omega
       · exact ⟨Nat.le_refl _,by simp only [];omega,by simp only [List.length_nil];omega⟩
     · split
       · split
         · rename_i c a b
           have hc:=zaw lib c env ts
           have ha:=zaw lib a (exprN lib c env ts).env ((exprN lib c env ts).ts ++ [⟨tname (exprN lib c env ts).ts.length,false⟩])
           have hb:=zaw lib b (exprN lib a (exprN lib c env ts).env ((exprN lib c env ts).ts ++ [⟨tname (exprN lib c env ts).ts.length,false⟩])).env (setTy (exprN lib a (exprN lib c env ts).env ((exprN lib c env ts).ts ++ [⟨tname (exprN lib c env ts).ts.length,false⟩])).ts (exprN lib c env ts).ts.length (exprN lib a (exprN lib c env ts).env ((exprN lib c env ts).ts ++ [⟨tname (exprN lib c env ts).ts.length,false⟩])).par.list)
           simp only [zaR,List.length_append,List.length_singleton] at ha hb
           simp only [sizeL,zaR,List.length_append,List.length_singleton]
           omega
         · exact ⟨Nat.le_refl _,by simp only [];omega,by simp only [List.length_nil];omega⟩
       · have h:=zbP lib (decide (k=85)) kids env ts
         simp only [List.length_append,List.length_singleton]
         omega
theorem zbP (lib:List Fn) (call:Bool):∀ (l:List Nd) (env:Env) (ts:List Par),ts.length≤(argsN lib call l env ts).ts.length∧(argsN lib call l env ts).ts.length≤ts.length+2 * sizeL l∧(argsN lib call l env ts).bs.length≤2 * sizeL l
 | [],env,ts=>by rw [argsN];simp
 | n :: r,env,ts=>by
   rw [argsN,sizeL]
   have hn:=zaw lib n env ts
   split
   · have hr:=zbP lib call r (exprN lib n env ts).env ((exprN lib n env ts).ts ++ [⟨tname (exprN lib n env ts).ts.length,(exprN lib n env ts).par.list⟩])
     simp only [List.length_append,List.length_singleton] at hr
     simp only [List.length_append,List.length_cons]
     omega
   · have hr:=zbP lib call r (exprN lib n env ts).env (exprN lib n env ts).ts
     simp only [List.length_append]
     omega
end
def Tab(w:World):Prop:=Lib.TabIs Tryz.prog w "internal/strconv.uint64pow10" .u64 Lib.pow10Tab
theorem Tab.keeps(h:Tab w)(hk:Keeps w w' S){B:Nat}(hB:∀k,S k→B≤k)(hT:∀g,Tryz.prog.globalNamed "internal/strconv.uint64pow10"=some g→g<B):Tab w':=by unfold Tab Lib.TabIs World.var? at h⊢;cases hg:Tryz.prog.globalNamed "internal/strconv.uint64pow10"with|none=>simp[hg]at h|some g=>simp only[hg,Option.bind_some]at h⊢;(have hlt:g<w.heap.size:=by rcases Nat.lt_or_ge g w.heap.size with h'|h';(·exact h');·simp[Array.getElem?_eq_none h']at h);rw[hk.block g hlt (fun hs=>by have:=hB g hs;have:=hT g hg;omega)];exact h
theorem Tab.lt(h:Tab w):∀g,Tryz.prog.globalNamed "internal/strconv.uint64pow10"=some g→g<w.heap.size:=by
 intro g hg;unfold Tab Lib.TabIs World.var? at h;simp only[hg,Option.bind_some]at h;rcases Nat.lt_or_ge g w.heap.size with h'|h';·exact h'
 ·simp[Array.getElem?_eq_none h']at h
theorem Tab.below(h:Tab w)(hb:Below w.heap.size w w'):Tab w':=h.keeps (S:=fun _=>False) (Keeps.of_below _ hb) (B:=w.heap.size) (fun _ e=>e.elim) h.lt
theorem zkP(n:Nat)(w:World)(hn:n≤1000000)(ht:Tab w):Calls Tryz.prog 73 #[.int .i64 n] w fun e w'=>e=.returned (.string ⟨(Lib.decDigits n).toArray⟩)∧Below w.heap.size w w':=by
 refine(Tryz.strconv_Itoa (n:Int) (by omega) (by omega) w ht).mono ?_;rintro e w'⟨rfl,k,os,rfl⟩;refine⟨?_,Lib.below_grow _ w (Nat.le_refl _) k os⟩;have:Lib.itoa (n:Int)=Lib.decDigits n:=by simp[Lib.itoa]
 rw[this]
theorem TPar:RowT Tryz.prog 45 71 (.agg #[.string ByteArray.empty,.bool false]) 2 24:=⟨Tryz.underlying45,by kernel_rfl⟩
def parV(p:Par):Value:=.agg #[.string p.name,.bool p.list]
def parCells(l:List Par):List Value:=l.flatMap fun p=>[.string p.name,.bool p.list]
theorem zdw(l:List Par):(parCells l).length=l.length*2:=by induction l with|nil=>rfl|cons p l ih=>simp only[parCells,List.flatMap_cons,List.length_append,List.length_cons,List.length_nil]at ih⊢;omega
theorem zdW(l m:List Par):parCells (l++m)=parCells l++parCells m:=by simp[parCells]
theorem zbX{P:Program}{t e:TypeId}{z:Value}{bytes:Nat}(R:RowT P t e z size bytes)(hzs:z.cells.size=size)(hsz:0<size){ops:Array Oper}{o:Oper}{a:Act}{K:Act→World→Prop}{Q:Exit→Act→World→Prop}{E:Prop}(hgd:o.guard=none)(s x:Operand)(ho:o.op=.call {callee:=.builtin .append,args:=#[s,x],argTypes:=#[t,t]}){u:Value}{n m:Nat}{news:List Value}(hs:a.eval s=v)(hx:a.eval x=u)(hown:w.ownsRow base e size v n xs)(hu:u=.slice none 0 0∧m=0∧news=[]∨∃ad c,u=.slice (some ad) m c∧∀j u,news[j]?=some u→w.cell? (ad.add j)=some u)(hl:news.length=m*size)(h1:∀u∈news,u.oneCell'=true)(h63:n+m≤maxLen)(hbytes:(n+m)*bytes≤140737488355328)(hbase:base≤w.heap.size)(h:∀v' w1,w1.ownsRow base e size v' (n+m) (xs++news)→w.grownBy w1 v.ownBlock→NewOr w v v'→K (a.put o.dst v') w1):if Region.wanted o (yielded ops a.tmps)=true then Oper.wp P o a w K Q else E:=by
 have hw:Region.wanted o (yielded ops a.tmps)=true:=by simp[Region.wanted,hgd]
 rw[if_pos hw];rcases hu with⟨rfl,rfl,rfl⟩|⟨ad,c,rfl,hnews⟩;·obtain⟨i,hi,hz,hsize,hby⟩:=info_parts R.inf;have hrun:=run_append_owned_none (P:=P) (w:=w) base t o.type e i size R.und hi v n xs hown;unfold Oper.wp;simp[execOp,ho,resolve,invoke,builtin,hs,hx,hrun,Result.andThen];exact h v w (by simpa using hown) (World.grownBy.refl _ _) (fun k hk=>.inl hk)
 ·obtain⟨v',w',hr,h2,h3,h4⟩:=zbH (P:=P) w (ty:=o.type) R hzs hsz base v n xs hown ad m c news hl hnews h1 h63 hbytes hbase;unfold Oper.wp execOp;simp only[ho,resolve,invoke,builtin,Sem.run_bind,Sem.run_pure,Result.andThen_ok,List.map_toArray,List.map_cons,List.map_nil,hs,hx,hr];exact h v' w' h2 h3 h4
theorem zjU(w:World)(a b:Value)(e:TypeId):∀j u,[a,b][j]?=some u→(w.alloc (.cells #[a,b] e)).cell? ((⟨w.heap.size,0,none⟩:Addr).add j)=some u:=by intro j u hj;match j,hj with|0,hj=>simp at hj;subst hj;simp[Addr.add]|1,hj=>simp at hj;subst hj;simp[Addr.add]|j+2,hj=>simp at hj
theorem ziE(n:Nat):(Lib.decDigits n).length≤n+1:=by induction n using Nat.strongRecOn with|ind n ih=>rw[Lib.decDigits];split;(·simp);·have:=ih (n/10) (by omega);simp only[List.length_append,List.length_singleton];omega
structure OutAt (w:World) (bo:Nat) (c0 c1 c2 c4 c5 tv:Value) (ts:List Par):Prop where
 blk:w.heap[bo]?=some (.cells #[c0,c1,c2,tv,c4,c5] 48 (0,0))
 own:w.ownsRow 0 71 2 tv ts.length (parCells ts)
 ne:tv.ownBlock≠some bo
theorem zas{n:Nat}(h:w.ownsRow base e size v n xs):∃a c,v=.slice a n c:=by
 rcases h.2 with⟨rfl,rfl⟩|⟨g,cap,cur,rfl,_⟩;·exact⟨none,0,rfl⟩
 ·exact⟨_,_,rfl⟩
theorem OutAt.lt(h:OutAt w bo c0 c1 c2 c4 c5 tv ts):bo<w.heap.size:=by have:=h.blk;rw[Array.getElem?_eq_some_iff]at this;exact this.1
theorem OutAt.still{w2:World}(h:OutAt w bo c0 c1 c2 c4 c5 tv ts)(hb:Below w.heap.size w w1)(hg:w1.grownBy w2 tv.ownBlock):w2.cell? ⟨bo,3,none⟩=some tv∧w2.frozen? ⟨bo,3,none⟩=false:=by have e1:=(hg.block bo (Nat.lt_of_lt_of_le h.lt hb.size) (fun e=>h.ne e.symm)).trans ((hb.block bo h.lt).trans h.blk);exact⟨zae e1 3 rfl,by simp[World.frozen?,e1]⟩
theorem OutAt.push{w2:World}{tv':Value}{p:Par}(h:OutAt w bo c0 c1 c2 c4 c5 tv ts)(hb:Below w.heap.size w w1)(hown:w2.ownsRow 0 71 2 tv' (ts.length+1) (parCells ts++[.string p.name,.bool p.list]))(hg:w1.grownBy w2 tv.ownBlock)(hn:NewOr w1 tv tv'):OutAt (w2.setCell ⟨bo,3,none⟩ tv') bo c0 c1 c2 c4 c5 tv' (ts++[p])∧Keeps w (w2.setCell ⟨bo,3,none⟩ tv') (fun k=>k=bo∨tv.ownBlock=some k)∧NewOr w tv tv':=by
 have hlt:=h.lt;have hlt1:bo<w1.heap.size:=Nat.lt_of_lt_of_le hlt hb.size;have e1:w2.heap[bo]?=some (.cells #[c0,c1,c2,tv,c4,c5] 48 (0,0)):=(hg.block bo hlt1 (fun e=>h.ne e.symm)).trans ((hb.block bo hlt).trans h.blk);have hne:tv'.ownBlock≠some bo:=fun e=>by rcases hn bo e with e|e;(·exact h.ne e);·omega
 have hk1:Keeps w2 (w2.setCell ⟨bo,3,none⟩ tv') (fun k=>k=bo):=⟨rfl,rfl,rfl,by simp[World.setCell],fun k hk hs=>heap_setCell_other w2 ⟨bo,3,none⟩ k tv' (fun e=>hs e)⟩;refine⟨⟨heap_setCell_same w2 bo 3 _ _ tv' e1,?_,hne⟩,?_,?_⟩;·have:=zau hown hk1 (fun k e e2=>hne (e2▸e));rw[zdW,List.length_append];exact this
 ·refine((Keeps.of_below _ hb).trans (Keeps.of_grown (S:=fun k=>tv.ownBlock=some k) hg (fun k e=>.inl e)) (fun k e=>.inl (.inr e))).trans hk1 (fun k e=>.inl (.inl e))
 ·intro k e;rcases hn k e with e|e;(·exact .inl e);·exact .inr (Nat.le_trans hb.size e)
theorem ziT(w:World)(bo:Nat)(c0 c1 c2 c4 c5 tv:Value)(ts:List Par)(h:OutAt w bo c0 c1 c2 c4 c5 tv ts)(hl:ts.length≤200000)(ht:Tab w):Calls Tryz.prog 72 #[.pointer (some ⟨bo,0,none⟩)] w fun e w'=>e=.returned (.int .i64 ts.length)∧∃tv',OutAt w' bo c0 c1 c2 c4 c5 tv' (ts++[⟨tname ts.length,false⟩])∧Keeps w w' (fun k=>k=bo∨tv.ownBlock=some k)∧NewOr w tv tv':=by
 obtain⟨a,c,rfl⟩:=zas h.own;have hc:=zae h.blk 3 rfl;have hfr:w.frozen? ⟨bo,3,none⟩=false:=by simp[World.frozen?,h.blk]
 have H:=Lib.hid h;have HT:=Lib.hid ht;have hlt:=h.lt;clear h ht;go_enter Tryz.func72,Tryz.ntmps72;go_wp2;have hD:Below w.heap.size w w.drew:=zak (Below.refl _ _) 1;have hdl:¬9223372036854775807<1+(Lib.decDigits ts.length).length:=by have:=ziE ts.length;omega
 have HI:=Lib.hid (zkP ts.length w.drew (by omega) (HT.out.below hD));go_region_law(first|(go_simp;go_at_call 73;refine HI.out.mono ?_;rintro e w1⟨rfl,hb⟩;have hB:=hD.trans (hb.mono hD.size);have hc1:=(hB.cell (p:=⟨bo,3,none⟩) hlt).trans hc;have hB2:=hB.alloc hB.size (.cells #[.string (⟨#[116]⟩++⟨(Lib.decDigits ts.length).toArray⟩),.bool false] 71);have hc3:=(hB2.cell (p:=⟨bo,3,none⟩) hlt).trans hc;skip)|(refine zbX TPar (by rfl) (by decide) (by rfl) (.tmp 3) (.tmp 10) (by rfl) (by rfl) (by rfl) (zaU H.out.own hB2) (.inr ⟨⟨w1.heap.size,0,none⟩,1,by rfl,zjU w1 _ _ _⟩) (by rfl) (by simp[Value.oneCell']) (by unfold maxLen;omega) (by omega) (Nat.zero_le _) ?_;intro v' w2 hown hg hnew;have hp:=Lib.hid (H.out.push (p:=⟨tname ts.length,false⟩) hB2 hown hg hnew);obtain⟨hc2,hf2⟩:=H.out.still hB2 hg;obtain⟨a1,cap1,rfl⟩:=zas hown));all_goals go_wp2;go_ret;refine⟨by go_num,_,hp.out⟩
theorem zbt:∀(l:List Par)(j:Nat),j<l.length→(parCells l)[j*2]?=some (.string (at' l j).name)∧(parCells l)[j*2+1]?=some (.bool (at' l j).list)|p::l,0,_=>⟨rfl,rfl⟩|p::l,j+1,h=>by have:=zbt l j (by simpa using h);have e:parCells (p::l)=.string p.name::.bool p.list::parCells l:=rfl;rw[e,show(j+1)*2=j*2+1+1 by omega,List.getElem?_cons_succ,List.getElem?_cons_succ,List.getElem?_cons_succ];simpa[at']using this
theorem zdx:∀(l:List Par)(j:Nat)(b:Bool),parCells (setTy l j b)=(parCells l).set (j*2+1) (.bool b)|[],j,b=>by simp[setTy,parCells]|p::l,0,b=>rfl|p::l,j+1,b=>by have e1:setTy (p::l) (j+1) b=p::setTy l j b:=rfl;have e2:∀(p:Par)(l:List Par),parCells (p::l)=.string p.name::.bool p.list::parCells l:=fun _ _=>rfl;rw[e1,e2,e2,zdx l j b,show(j+1)*2+1=(j*2+1)+1+1 by omega,List.set_cons_succ,List.set_cons_succ]
theorem zcw{n:Nat}(h:w.ownsRow base e size v n xs)(hn:0<n):∃g cap cur,v=.slice (some ⟨g,0,none⟩) n cap∧n≤cap∧w.heap[g]?=some (.cells cur e (0,0))∧cur.size=cap*size∧cap≤maxLen∧base≤g∧cur.toList.take (n*size)=xs∧∀j u,xs[j]?=some u→w.cell? ⟨g,j,none⟩=some u:=by
 rcases h.2 with⟨rfl,hn'⟩|⟨g,cap,cur,rfl,hg,hh,hnc,hm,hs,ht⟩;·omega
 ·refine⟨g,cap,cur,rfl,hnc,hh,hs,hm,hg,ht,fun j u hj=>?_⟩;rw[←ht]at hj;rw[List.getElem?_take]at hj;split at hj;(·simp only[World.cell?,hh];simpa using hj);·simp at hj
theorem zbu{g n cap:Nat}(h:w.ownsRow base e size (.slice (some ⟨g,0,none⟩) n cap) n xs)(j:Nat)(x:Value)(hj:j<n*size):(w.setCell ⟨g,j,none⟩ x).ownsRow base e size (.slice (some ⟨g,0,none⟩) n cap) n (xs.set j x):=by
 obtain⟨h0,⟨h1,_⟩|⟨g',cap',cur,he,hg,hh,hnc,hm,hs,ht⟩⟩:=h;·simp at h1
 ·simp only[Value.slice.injEq,Option.some.injEq,Addr.mk.injEq,and_true,true_and]at he;obtain⟨rfl,rfl⟩:=he;refine⟨by simpa using h0,.inr ⟨g,cap,cur.setIfInBounds j x,rfl,hg,heap_setCell_same w g j cur e x hh,hnc,hm,by simpa using hs,?_⟩⟩;rw[←ht];simp[List.take_set]
theorem OutAt.below(h:OutAt w bo c0 c1 c2 c4 c5 tv ts)(hb:Below w.heap.size w w'):OutAt w' bo c0 c1 c2 c4 c5 tv ts:=⟨(hb.block bo h.lt).trans h.blk,zaU h.own hb,h.ne⟩
theorem OutAt.keeps(h:OutAt w bo c0 c1 c2 c4 c5 tv ts)(hk:Keeps w w' S)(h1:¬S bo)(h2:∀k,tv.ownBlock=some k→¬S k):OutAt w' bo c0 c1 c2 c4 c5 tv ts:=⟨(hk.block bo h.lt h1).trans h.blk,zau h.own hk h2,h.ne⟩
theorem zaf(w:World)(g j:Nat)(x:Value):Keeps w (w.setCell ⟨g,j,none⟩ x) (fun k=>k=g):=⟨rfl,rfl,rfl,by simp[World.setCell],fun k hk hs=>heap_setCell_other w ⟨g,j,none⟩ k x (fun e=>hs e)⟩
theorem OutAt.typed{g cap:Nat}(h:OutAt w bo c0 c1 c2 c4 c5 (.slice (some ⟨g,0,none⟩) ts.length cap) ts)(i:Nat)(b:Bool)(hi:i<ts.length):OutAt (w.setCell ⟨g,i*2+1,none⟩ (.bool b)) bo c0 c1 c2 c4 c5 (.slice (some ⟨g,0,none⟩) ts.length cap) (setTy ts i b):=by have hne:¬bo=g:=fun e=>h.ne (by simp[Value.ownBlock,e]);refine⟨((zaf w g _ _).block bo h.lt hne).trans h.blk,?_,h.ne⟩;rw[zaR,zdx];exact zbu h.own _ _ (by omega)
theorem zjW(w:World)(bo:Nat)(c0 c1 c2 c4 c5 tv:Value)(ts:List Par)(i:Nat)(b:Bool)(h:OutAt w bo c0 c1 c2 c4 c5 tv ts)(hl:ts.length≤200000)(hi:i<ts.length):Calls Tryz.prog 74 #[.int .i64 i,.bool b,.pointer (some ⟨bo,0,none⟩)] w fun e w'=>e=.returned (parV (at' (setTy ts i b) i))∧OutAt w' bo c0 c1 c2 c4 c5 tv (setTy ts i b)∧Keeps w w' (fun k=>tv.ownBlock=some k):=by
 obtain⟨g,cap,cur,rfl,hnc,hh,hs,hm,_,hta,hcl⟩:=zcw h.own (by omega);have hlt:=h.lt;have hglt:g<w.heap.size:=by rw[Array.getElem?_eq_some_iff]at hh;exact hh.1
 have hA:Below w.heap.size w (w.alloc (.cells #[.string ⟨#[]⟩,.bool false] 71)):=(Below.refl _ _).alloc (Nat.le_refl _) _;have hc:=(hA.cell (p:=⟨bo,3,none⟩) hlt).trans (zae h.blk 3 rfl);obtain⟨k0,k1⟩:=zbt ts i hi;have r0:=(hA.cell (p:=⟨g,i*2,none⟩) hglt).trans (hcl _ _ k0);have r1:=(hA.cell (p:=⟨g,i*2+1,none⟩) hglt).trans (hcl _ _ k1);have hfz:(w.alloc (.cells #[.string ⟨#[]⟩,.bool false] 71)).frozen? ⟨g,i*2+1,none⟩=false:=by have:=hA.block g hglt;simp[World.frozen?,this,hh]
 have h2:=h.typed i b hi;have hA2:Below (w.setCell ⟨g,i*2+1,none⟩ (.bool b)).heap.size (w.setCell ⟨g,i*2+1,none⟩ (.bool b)) ((w.setCell ⟨g,i*2+1,none⟩ (.bool b)).alloc (.cells #[.string ⟨#[]⟩,.bool false] 71)):=(Below.refl _ _).alloc (Nat.le_refl _) _;have hsz2:(w.setCell ⟨g,i*2+1,none⟩ (.bool b)).heap.size=w.heap.size:=by simp[World.setCell]
 have d3:=(hA2.cell (p:=⟨bo,3,none⟩) h2.lt).trans (zae h2.blk 3 rfl);have hi2:i<(setTy ts i b).length:=by rw[zaR];exact hi
 obtain⟨g',cap',cur',he,_,_,_,_,_,_,hcl2⟩:=zcw h2.own (by omega);simp only[Value.slice.injEq,Option.some.injEq,Addr.mk.injEq,and_true]at he;obtain⟨rfl,-,-⟩:=he;obtain⟨m0,m1⟩:=zbt (setTy ts i b) i hi2;have q0:=(hA2.cell (p:=⟨g,i*2,none⟩) (by rw[hsz2];exact hglt)).trans (hcl2 _ _ m0);have q1:=(hA2.cell (p:=⟨g,i*2+1,none⟩) (by rw[hsz2];exact hglt)).trans (hcl2 _ _ m1);have HF:=Lib.hid (show OutAt ((w.setCell ⟨g,i*2+1,none⟩ (.bool b)).alloc (.cells #[.string (at' (setTy ts i b) i).name,.bool (at' (setTy ts i b) i).list] 71)) bo c0 c1 c2 c4 c5 (.slice (some ⟨g,0,none⟩) ts.length cap) (setTy ts i b)∧Keeps w ((w.setCell ⟨g,i*2+1,none⟩ (.bool b)).alloc (.cells #[.string (at' (setTy ts i b) i).name,.bool (at' (setTy ts i b) i).list] 71)) (fun k=>(Value.slice (some ⟨g,0,none⟩) ts.length cap).ownBlock=some k)from⟨h2.below ((Below.refl _ _).alloc (Nat.le_refl _) _),((zaf w g _ _).mono (fun k e=>by simp[Value.ownBlock,e])).alloc _⟩);clear h hta hcl hs hcl2 h2 hA2 k0 k1 m0 m1 hA;go_enter Tryz.func74,Tryz.ntmps74;go_wp2;go_returns;exact⟨rfl,HF.out⟩
def VisB(w:World)(bV bo bm:Nat)(lv:Value):Prop:=w.heap[bV]?=some (.cells #[lv,.map (some bm),.func (.func 72) #[] #[.pointer (some ⟨bo,0,none⟩)],.func (.func 74) #[] #[.pointer (some ⟨bo,0,none⟩)]] 131 (0,0))
theorem VisB.lt(h:VisB w bV bo bm lv):bV<w.heap.size:=by unfold VisB at h;rw[Array.getElem?_eq_some_iff]at h;exact h.1
theorem VisB.keeps(h:VisB w bV bo bm lv)(hk:Keeps w w' S)(hn:¬S bV):VisB w' bV bo bm lv:=(hk.block bV h.lt hn).trans h
theorem zjI(ts:List Par)(s:ByteArray)(c b:Bool):setTy (ts++[⟨s,c⟩]) ts.length b=ts++[⟨s,b⟩]:=by simp[setTy,at']
theorem zmR{w0:World}{tv1:Value}(hS:∀k,(k=bo∨tv.ownBlock=some k)→k<w.heap.size)(hs:w0.heap.size=w.heap.size+1)(hn:NewOr w0 tv tv1):¬tv1.ownBlock=some w.heap.size:=fun e=>by rcases hn _ e with e|e;(·exact absurd (hS _ (.inr e)) (Nat.lt_irrefl _));·omega
theorem unfrozen{g:Nat}{cs:Array Value}(h:w.heap[g]?=some (.cells cs e (0,0)))(j:Nat):w.frozen? ⟨g,j,none⟩=false:=by simp[World.frozen?,h]
theorem zjX(w:World)(bo:Nat)(c0 c1 c2 c4 c5 tv:Value)(ts:List Par)(s:ByteArray)(b:Bool)(h:OutAt w bo c0 c1 c2 c4 c5 tv (ts++[⟨s,false⟩]))(hl:ts.length<200000):Calls Tryz.prog 74 #[.int .i64 ts.length,.bool b,.pointer (some ⟨bo,0,none⟩)] w fun e w'=>e=.returned (.agg #[.string s,.bool b])∧OutAt w' bo c0 c1 c2 c4 c5 tv (ts++[⟨s,b⟩])∧Keeps w w' (fun k=>tv.ownBlock=some k):=by refine(zjW w bo c0 c1 c2 c4 c5 tv _ ts.length b h (by simp;omega) (by simp)).mono ?_;rw[zjI];rintro e w'⟨rfl,h1,h2⟩;exact⟨by simp[at',parV],h1,h2⟩
theorem zlo(w:World)(bV bo bm:Nat)(c0 c1 c2 c4 c5 tv lv:Value)(ts:List Par)(b:Bool)(hV:VisB w bV bo bm lv)(h:OutAt w bo c0 c1 c2 c4 c5 tv ts)(hne:bV≠bo)(hne2:tv.ownBlock≠some bV)(hl:ts.length<200000)(ht:Tab w):Calls Tryz.prog 136 #[.pointer (some ⟨bV,0,none⟩),.bool b] w fun e w'=>e=.returned (parV ⟨tname ts.length,b⟩)∧∃tv',OutAt w' bo c0 c1 c2 c4 c5 tv' (ts++[⟨tname ts.length,b⟩])∧Keeps w w' (fun k=>k=bo∨tv.ownBlock=some k)∧NewOr w tv tv':=by
 have hA:Below w.heap.size w ((w.alloc (.cells #[.string ⟨#[]⟩,.bool false] 71)).drew):=zak ((Below.refl _ _).alloc (Nat.le_refl _) _) 1;have v2:=(hA.cell (p:=⟨bV,2,none⟩) hV.lt).trans (zae hV 2 rfl);have v3:=(hA.cell (p:=⟨bV,3,none⟩) hV.lt).trans (zae hV 3 rfl);have hn0:((w.alloc (.cells #[.string ⟨#[]⟩,.bool false] 71)).drew).heap[w.heap.size]?=some (.cells #[.string ⟨#[]⟩,.bool false] 71 (0,0)):=heap_alloc_new w _;have HS:Hid (∀k,(k=bo∨tv.ownBlock=some k)→k<w.heap.size):=Lib.hid (by rintro k(rfl|e);exact h.lt;exact(h.own.lt k e).2);have hsz0:((w.alloc (.cells #[.string ⟨#[]⟩,.bool false] 71)).drew).heap.size=w.heap.size+1:=by simp[World.drew]
 have hVl:=hV.lt;have HV:=Lib.hid hV;have H:=Lib.hid h;have HF:=Lib.hid (ziT _ bo c0 c1 c2 c4 c5 tv ts (h.below hA) (by omega) (ht.below hA));clear h hV ht;go_enter Tryz.func136,Tryz.ntmps136;go_wp2;go_region_law(first|(go_simp;go_at_call 72;refine HF.out.mono ?_;rintro e w1⟨rfl,tv1,ho1,hk1,hn1⟩;have v31:=(hk1.cell (p:=⟨bV,3,none⟩) (by rw[hsz0];exact Nat.lt_succ_of_lt hVl) (by rintro(e|e);exact hne e;exact hne2 e)).trans v3;have n1:=(hk1.block w.heap.size (by omega) (fun e=>absurd (HS.out _ e) (Nat.lt_irrefl _))).trans hn0)|(go_simp;go_at_call 74;refine(zjX w1 bo c0 c1 c2 c4 c5 tv1 ts _ b ho1 hl).mono ?_;rintro e w2⟨rfl,ho2,hk2⟩;have hne1:=zmR HS.out hsz0 hn1;have n2:=(hk2.block w.heap.size (by have:=hk1.size;omega) hne1).trans n1;have m0:=zae n2 0 rfl;have m1:=zae n2 1 rfl;have g0:=unfrozen n2 0;have g1:=unfrozen n2 1));all_goals go_wp2;have e0:=heap_setCell_same w2 _ 0 _ _ (.string (tname ts.length)) n2;have e1:=heap_setCell_same _ _ 1 _ _ (.bool b) e0;(try simp only[Exit.inBlock,Exit.then]);refine bodyPost_ret (results_cell_row (P:=Tryz.prog) rfl _ _ w.heap.size _ _ _ _ rfl e1 Tryz.underlying71 rfl (by kernel_rfl)) rfl ?_;refine⟨rfl,tv1,?_,?_,?_⟩;(·exact(ho2.keeps (zaf w2 w.heap.size 0 _) (fun e=>by have:=HS.out bo (.inl rfl);omega) (fun k e e2=>hne1 (by rw[←(show k=w.heap.size from e2)];exact e))).keeps (zaf _ w.heap.size 1 _) (fun e=>by have:=HS.out bo (.inl rfl);omega) (fun k e e2=>hne1 (by rw[←(show k=w.heap.size from e2)];exact e)));(·refine((((Keeps.of_below _ hA).trans hk1 (fun k e=>.inl e)).trans hk2 (fun k e=>?_)).trans (zaf w2 w.heap.size 0 _) (fun k e=>.inr (by omega))).trans (zaf _ w.heap.size 1 _) (fun k e=>.inr (by omega));rcases hn1 k e with e|e;(·exact .inl (.inr e));·exact .inr (by omega));·intro k e;rcases hn1 k e with e|e;(·exact .inl e);·exact .inr (by omega)
theorem TBd:RowT Tryz.prog 46 141 (.agg #[.string ByteArray.empty,.bool false,.int .u8 0,.int .i64 0,.string ByteArray.empty,.slice none 0 0,.slice none 0 0,.slice none 0 0]) 8 120:=⟨Tryz.underlying46,by kernel_rfl⟩
def Bd.Ok1(b:Bd):Prop:=b.to.size≤maxLen∧(0≤b.op∧b.op≤255)∧In64 b.num∧b.name.size≤maxLen
inductive BdsAt (A:Nat→Prop) (w:World):Value→List Bd→Prop
 | mk (v:Value) (l:List Bd) (cs:Nat→Nat→Value) (h:RowAt A w 8 v l.length cs)
    (hf:∀ j,j < l.length→cs j 0=.string (at' l j).to∧cs j 1=.bool (at' l j).list∧cs j 2=.int .u8 (at' l j).op∧cs j 3=.int .i64 (at' l j).num∧cs j 4=.string (at' l j).name∧StrsAt A w (cs j 5) (at' l j).args∧(at' l j).Ok1)
    (ht:∀ j,j < l.length→BdsAt A w (cs j 6) (at' l j).thn) (he:∀ j,j < l.length→BdsAt A w (cs j 7) (at' l j).els):BdsAt A w v l
variable {bs:List Bd}{env:Env}{l:List Bd}
theorem BdsAt.stays(hs:Stays A A' w w')(h:BdsAt A w v l):BdsAt A' w' v l:=by induction h with|mk v l cs h hf ht he iht ihe=>exact .mk v l cs (h.stays hs) (fun j hj=>by obtain⟨a0,a1,a2,a3,a4,a5,a6⟩:=hf j hj;exact⟨a0,a1,a2,a3,a4,a5.stays hs,a6⟩) iht ihe
theorem BdsAt.nil(w:World):BdsAt A w (.slice none 0 0) []:=.mk _ [] (fun _ _=>undef) (RowAt.empty _ _ _) (fun j hj=>by simp at hj) (fun j hj=>by simp at hj) (fun j hj=>by simp at hj)
theorem BdsAt.form(h:BdsAt A w v l):l.length≤maxLen∧∃a c,v=.slice a l.length c:=by cases h with|mk _ _ cs h hf ht he=>exact⟨h.1,h.form⟩
structure BdCells (A:Nat→Prop) (w:World) (f:Nat→Value) (b:Bd):Prop where
 c0:f 0=.string b.to
 c1:f 1=.bool b.list
 c2:f 2=.int .u8 b.op
 c3:f 3=.int .i64 b.num
 c4:f 4=.string b.name
 c5:StrsAt A w (f 5) b.args
 c6:BdsAt A w (f 6) b.thn
 c7:BdsAt A w (f 7) b.els
 ok:b.Ok1
theorem BdCells.stays(hs:Stays A A' w w'){f:Nat→Value}{b:Bd}(h:BdCells A w f b):BdCells A' w' f b:=⟨h.c0,h.c1,h.c2,h.c3,h.c4,h.c5.stays hs,h.c6.stays hs,h.c7.stays hs,h.ok⟩
def BdsOwn(A:Nat→Prop)(w:World)(v:Value)(l:List Bd):Prop:=∃xs,w.ownsRow 0 141 8 v l.length xs∧∀j,j<l.length→BdCells A w (fun i=>vat xs (j*8+i)) (at' l j)
theorem BdsOwn.nil(w:World):BdsOwn A w (.slice none 0 0) []:=⟨[],World.ownsRow_nil _ _ _ _,fun j hj=>by simp at hj⟩
theorem BdsOwn.shut(h:BdsOwn A w v l)(hA:∀k,A k→A' k)(hv:∀k,v.ownBlock=some k→A' k)(hl:l.length≤maxLen):BdsAt A' w v l:=by
 obtain⟨xs,hx,hf⟩:=h;have hs:Stays A A' w w:=⟨Nat.le_refl _,fun b _ ha=>⟨rfl,hA b ha⟩⟩;refine .mk v l (fun j i=>vat xs (j*8+i)) ⟨hl,?_⟩ (fun j hj=>?_) (fun j hj=>((hf j hj).stays hs).c6) (fun j hj=>((hf j hj).stays hs).c7);·obtain⟨h0,⟨rfl,h1⟩|⟨g,cap,cur,rfl,hg,hh,hn,hm,hc,ht⟩⟩:=hx;(·exact⟨none,0,by rw[h1],by omega,fun _=>rfl,fun h=>by omega⟩);·refine⟨_,cap,rfl,hn,nofun,fun hp=>⟨g,0,rfl,by rw[Array.getElem?_eq_some_iff]at hh;exact hh.1,hv g rfl,fun j hj i hi=>?_⟩⟩;(have hlt:j*8+i<xs.length:=by omega);(have e:(0:Nat)+j*8+i=j*8+i:=by omega);rw[e];simp only[World.cell?,hh,vat,List.getD_eq_getElem?_getD];(have hx2:xs[j*8+i]?=cur[j*8+i]?:=by rw[←ht,List.getElem?_take,if_pos (by omega)];simp);rw[←hx2,List.getElem?_eq_getElem hlt];rfl
 ·have:=(hf j hj).stays hs;exact⟨this.c0,this.c1,this.c2,this.c3,this.c4,this.c5,this.ok⟩
def PtrAt(w:World)(bo pb po:Nat)(bv c4:Value):Prop:=(pb=bo∧po=4∧c4=bv)∨(pb≠bo∧po=0∧w.heap[pb]?=some (.cells #[bv] 46 (0,0)))
def Mut(bo bm pb:Nat)(tv bv:Value)(k:Nat):Prop:=k=bo∨k=bm∨k=pb∨tv.ownBlock=some k∨bv.ownBlock=some k
structure VSt (A:Nat→Prop) (w:World) (bV bo bm pb po N:Nat) (c0 c1 c2 c4 c5 tv bv lv:Value) (lib:List Fn) (ts:List Par) (bs:List Bd) (env:Env):Prop where
 out:OutAt w bo c0 c1 c2 c4 c5 tv ts
 vis:VisB w bV bo bm lv
 lib:FnsAt A w lv lib
 map:SMapLe Tryz.prog 9 w bm (fun s=>(env s).map parV) N
 ptr:PtrAt w bo pb po bv c4
 row:BdsOwn A w bv bs
 tab:Tab w
 tabA:∀ g,Tryz.prog.globalNamed "internal/strconv.uint64pow10"=some g→A g
 visA:A bV
 alt:∀ k,A k→k < w.heap.size
 mutA:∀ k,Mut bo bm pb tv bv k→¬ A k
 bobm:bo≠bm
 pbbm:pb≠bm
 tvbm:tv.ownBlock≠some bm
 tvpb:tv.ownBlock≠some pb
 bvbo:bv.ownBlock≠some bo
 bvbm:bv.ownBlock≠some bm
 bvpb:bv.ownBlock≠some pb
 sep:Sep tv bv
def VLeft(A:Nat→Prop)(w w':World)(bV bo bm pb po N:Nat)(c0 c1 c2 c4 c5 tv bv lv:Value)(lib:List Fn)(ts:List Par)(bs:List Bd)(env:Env):Prop:=∃A' tv' bv' c4',VSt A' w' bV bo bm pb po N c0 c1 c2 c4' c5 tv' bv' lv lib ts bs env∧Keeps w w' (Mut bo bm pb tv bv)∧(∀k,A k→A' k)∧(∀k,A' k→A k∨w.heap.size≤k)∧NewOr w tv tv'∧NewOr w bv bv'∧(pb≠bo→c4'=c4)
theorem Mut.new{k:Nat}{tv' bv':Value}(h:Mut bo bm pb tv' bv' k)(h1:NewOr w tv tv')(h2:NewOr w bv bv'):Mut bo bm pb tv bv k∨w.heap.size≤k:=by
 rcases h with h|h|h|h|h;·exact .inl (.inl h)
 ·exact .inl (.inr (.inl h))
 ·exact .inl (.inr (.inr (.inl h)))
 ·rcases h1 k h with h|h;(·exact .inl (.inr (.inr (.inr (.inl h)))));·exact .inr h
 ·rcases h2 k h with h|h;(·exact .inl (.inr (.inr (.inr (.inr h)))));·exact .inr h
theorem NewOr.refl(w:World)(v:Value):NewOr w v v:=fun k h=>.inl h
theorem NewOr.trans{u x:Value}(h:NewOr w u v)(h':NewOr w1 v x)(hs:w.heap.size≤w1.heap.size):NewOr w u x:=fun k e=>by rcases h' k e with e|e;(·exact h k e);·exact .inr (Nat.le_trans hs e)
theorem PtrAt.lt(h:PtrAt w bo pb po bv c4)(hb:bo<w.heap.size):pb<w.heap.size:=by
 rcases h with⟨rfl,_⟩|⟨_,_,h⟩;·exact hb
 ·rw[Array.getElem?_eq_some_iff]at h;exact h.1
theorem PtrAt.keeps(h:PtrAt w bo pb po bv c4)(hk:Keeps w w' S)(hn:¬S pb):PtrAt w' bo pb po bv c4:=by
 rcases h with h|⟨h0,h1,h2⟩;·exact .inl h
 ·exact .inr ⟨h0,h1,(hk.block pb (by rw[Array.getElem?_eq_some_iff]at h2;exact h2.1) hn).trans h2⟩
theorem BdsOwn.keeps(h:BdsOwn A w v l)(hk:Keeps w w' S)(hA:∀k,A k→¬S k)(hv:∀k,v.ownBlock=some k→¬S k):BdsOwn A w' v l:=by obtain⟨xs,hx,hf⟩:=h;exact⟨xs,zau hx hk hv,fun j hj=>(hf j hj).stays (hk.stays fun k a _=>hA k a)⟩
theorem BdsOwn.mono(h:BdsOwn A w v l)(hA:∀k,A k→A' k):BdsOwn A' w v l:=by obtain⟨xs,hx,hf⟩:=h;exact⟨xs,hx,fun j hj=>(hf j hj).stays ⟨Nat.le_refl _,fun b _ ha=>⟨rfl,hA b ha⟩⟩⟩
theorem Tab.stays(h:Tab w)(hk:Keeps w w' S)(hS:∀g,Tryz.prog.globalNamed "internal/strconv.uint64pow10"=some g→¬S g):Tab w':=by have hlt:=h.lt;unfold Tab Lib.TabIs World.var? at h⊢;cases hg:Tryz.prog.globalNamed "internal/strconv.uint64pow10"with|none=>simp[hg]at h|some g=>simp only[hg,Option.bind_some]at h⊢;rw[hk.block g (hlt g hg) (hS g hg)];exact h
theorem VSt.keeps {A:Nat→Prop} {w w':World} {bV bo bm pb po N:Nat} {c0 c1 c2 c4 c5 tv bv lv:Value} {lib:List Fn} {ts:List Par} {bs:List Bd} {env:Env} {S:Nat→Prop}
 (h:VSt A w bV bo bm pb po N c0 c1 c2 c4 c5 tv bv lv lib ts bs env) (hk:Keeps w w' S) (hA:∀ k,A k→¬ S k) (hM:∀ k,Mut bo bm pb tv bv k→¬ S k):VSt A w' bV bo bm pb po N c0 c1 c2 c4 c5 tv bv lv lib ts bs env where
 out:=h.out.keeps hk (hM _ (.inl rfl)) (fun k e=>hM k (.inr (.inr (.inr (.inl e)))))
 vis:=h.vis.keeps hk (hA _ h.visA)
 lib:=h.lib.stays (hk.stays fun k a _=>hA k a)
 map:=hk.smap h.map (hM _ (.inr (.inl rfl)))
 ptr:=h.ptr.keeps hk (hM _ (.inr (.inr (.inl rfl))))
 row:=h.row.keeps hk hA (fun k e=>hM k (.inr (.inr (.inr (.inr e)))))
 tab:=h.tab.stays hk (fun g e=>hA g (h.tabA g e))
 tabA:=h.tabA
 visA:=h.visA
 alt:=fun k a=>Nat.lt_of_lt_of_le (h.alt k a) hk.size
 mutA:=h.mutA
 bobm:=h.bobm
 pbbm:=h.pbbm
 tvbm:=h.tvbm
 tvpb:=h.tvpb
 bvbo:=h.bvbo
 bvbm:=h.bvbm
 bvpb:=h.bvpb
 sep:=h.sep
theorem VSt.below(h:VSt A w bV bo bm pb po N c0 c1 c2 c4 c5 tv bv lv lib ts bs env)(hb:Below w.heap.size w w'):VSt A w' bV bo bm pb po N c0 c1 c2 c4 c5 tv bv lv lib ts bs env:=h.keeps (Keeps.of_below (fun _=>False) hb) (fun _ _ e=>e) (fun _ _ e=>e)
theorem VSt.mutlt(h:VSt A w bV bo bm pb po N c0 c1 c2 c4 c5 tv bv lv lib ts bs env):∀k,Mut bo bm pb tv bv k→k<w.heap.size:=by
 rintro k(rfl|rfl|rfl|e|e);·exact h.out.lt
 ·exact h.map.lt
 ·exact h.ptr.lt h.out.lt
 ·exact(h.out.own.lt k e).2
 ·obtain⟨xs,hx,_⟩:=h.row;exact(hx.lt k e).2
theorem VSt.outside(h:VSt A w bV bo bm pb po N c0 c1 c2 c4 c5 tv bv lv lib ts bs env):∀k,A k→¬(k=bo∨tv.ownBlock=some k):=by
 rintro k a(e|e);·exact h.mutA k (.inl e) a
 ·exact h.mutA k (.inr (.inr (.inr (.inl e)))) a
theorem VSt.temp {A:Nat→Prop} {w w1:World} {bV bo bm pb po N:Nat} {c0 c1 c2 c4 c5 tv tv1 bv lv:Value} {lib:List Fn} {ts ts1:List Par} {bs:List Bd} {env:Env}
 (h:VSt A w bV bo bm pb po N c0 c1 c2 c4 c5 tv bv lv lib ts bs env) (ho:OutAt w1 bo c0 c1 c2 c4 c5 tv1 ts1) (hk:Keeps w w1 (fun k=>k=bo∨tv.ownBlock=some k)) (hn:NewOr w tv tv1):
 VSt A w1 bV bo bm pb po N c0 c1 c2 c4 c5 tv1 bv lv lib ts1 bs env:=by
 have hlt:=h.mutlt
 have hA:=h.outside
 have hne:∀ k,k < w.heap.size→tv.ownBlock≠some k→tv1.ownBlock≠some k:=fun k hk' h1 e=>by
  rcases hn k e with e|e
  · exact h1 e
  · omega
 exact {
  out:=ho
  vis:=h.vis.keeps hk (hA _ h.visA)
  lib:=h.lib.stays (hk.stays fun k a _=>hA k a)
  map:=hk.smap h.map (by rintro (e|e);exact h.bobm e.symm;exact h.tvbm e)
  ptr:=by
   rcases h.ptr with h1|⟨h0,h1,h2⟩
   · exact .inl h1
   · exact .inr ⟨h0,h1,(hk.block pb (hlt _ (.inr (.inr (.inl rfl)))) (by rintro (e|e);exact h0 e;exact h.tvpb e)).trans h2⟩
  row:=h.row.keeps hk hA (by rintro k e (e2|e2);exact h.bvbo (e2 ▸ e);exact h.sep k e2 e)
  tab:=h.tab.stays hk (fun g e=>hA g (h.tabA g e))
  tabA:=h.tabA
  visA:=h.visA
  alt:=fun k a=>Nat.lt_of_lt_of_le (h.alt k a) hk.size
  mutA:=by
   intro k hm a
   rcases Mut.new hm hn (NewOr.refl w bv) with e|e
   · exact h.mutA k e a
   · have:=h.alt k a;omega
  bobm:=h.bobm
  pbbm:=h.pbbm
  tvbm:=hne _ h.map.lt h.tvbm
  tvpb:=hne _ (hlt _ (.inr (.inr (.inl rfl)))) h.tvpb
  bvbo:=h.bvbo
  bvbm:=h.bvbm
  bvpb:=h.bvpb
  sep:=fun k e1 e2=>by
   rcases hn k e1 with e|e
   · exact h.sep k e e2
   · have:=hlt k (.inr (.inr (.inr (.inr e2))));omega }
theorem PtrAt.cell(h:PtrAt w bo pb po bv c4)(ho:OutAt w bo c0 c1 c2 c4 c5 tv ts):w.cell? ⟨pb,po,none⟩=some bv∧w.frozen? ⟨pb,po,none⟩=false:=by
 rcases h with⟨rfl,rfl,rfl⟩|⟨_,rfl,h⟩;·exact⟨zae ho.blk 4 rfl,by simp[World.frozen?,ho.blk]⟩
 ·exact⟨zae h 0 rfl,by simp[World.frozen?,h]⟩
theorem zgR(bv':Value)(h:PtrAt w bo pb po bv c4)(ho:OutAt w bo c0 c1 c2 c4 c5 tv ts)(hn:tv.ownBlock≠some pb):∃c4',OutAt (w.setCell ⟨pb,po,none⟩ bv') bo c0 c1 c2 c4' c5 tv ts∧PtrAt (w.setCell ⟨pb,po,none⟩ bv') bo pb po bv' c4'∧(pb≠bo→c4'=c4):=by
 rcases h with⟨rfl,rfl,rfl⟩|⟨h0,rfl,h⟩;·exact⟨bv',⟨heap_setCell_same w pb 4 _ _ bv' ho.blk,zau ho.own (zaf w pb 4 bv') (fun k e e2=>hn ((show k=pb from e2)▸e)),ho.ne⟩,.inl ⟨rfl,rfl,rfl⟩,fun e=>absurd rfl e⟩
 ·exact⟨c4,ho.keeps (zaf w pb 0 bv') (fun e=>h0 e.symm) (fun k e e2=>hn ((show k=pb from e2)▸e)),.inr ⟨h0,rfl,heap_setCell_same w pb 0 _ _ bv' h⟩,fun _=>rfl⟩
theorem zfn{g n m cap:Nat}{zs:List Value}(v0 v1 v2 v3 v4 v5 v6 v7:Value)(h:w.ownsRow base e 8 (.slice (some ⟨g,0,none⟩) m cap) m (xs++zs))(hm:m=n+1)(hx:xs.length=n*8)(hz:zs.length=8):((((((((w.setCell ⟨g,n*8,none⟩ v0).setCell ⟨g,n*8+1,none⟩ v1).setCell ⟨g,n*8+2,none⟩ v2).setCell ⟨g,n*8+3,none⟩ v3).setCell ⟨g,n*8+4,none⟩ v4).setCell ⟨g,n*8+5,none⟩ v5).setCell ⟨g,n*8+6,none⟩ v6).setCell ⟨g,n*8+7,none⟩ v7).ownsRow base e 8 (.slice (some ⟨g,0,none⟩) m cap) m (xs++[v0,v1,v2,v3,v4,v5,v6,v7])∧Keeps w ((((((((w.setCell ⟨g,n*8,none⟩ v0).setCell ⟨g,n*8+1,none⟩ v1).setCell ⟨g,n*8+2,none⟩ v2).setCell ⟨g,n*8+3,none⟩ v3).setCell ⟨g,n*8+4,none⟩ v4).setCell ⟨g,n*8+5,none⟩ v5).setCell ⟨g,n*8+6,none⟩ v6).setCell ⟨g,n*8+7,none⟩ v7) (fun k=>k=g):=by subst hm;have r:=zbu (zbu (zbu (zbu (zbu (zbu (zbu (zbu h (n*8) v0 (by omega)) (n*8+1) v1 (by omega)) (n*8+2) v2 (by omega)) (n*8+3) v3 (by omega)) (n*8+4) v4 (by omega)) (n*8+5) v5 (by omega)) (n*8+6) v6 (by omega)) (n*8+7) v7 (by omega);refine⟨?_,(((((((zaf w g _ v0).same (zaf _ g _ v1)).same (zaf _ g _ v2)).same (zaf _ g _ v3)).same (zaf _ g _ v4)).same (zaf _ g _ v5)).same (zaf _ g _ v6)).same (zaf _ g _ v7)⟩;match zs,hz with|[z0,z1,z2,z3,z4,z5,z6,z7],_=>(have:((((((((xs++[z0,z1,z2,z3,z4,z5,z6,z7]).set (n*8) v0).set (n*8+1) v1).set (n*8+2) v2).set (n*8+3) v3).set (n*8+4) v4).set (n*8+5) v5).set (n*8+6) v6).set (n*8+7) v7=xs++[v0,v1,v2,v3,v4,v5,v6,v7]:=by rw[←hx];simp);rw[this]at r;exact r
theorem BdsOwn.snoc{b:Bd}{v0 v1 v2 v3 v4 v5 v6 v7:Value}(hx:w.ownsRow 0 141 8 v (l.length+1) (xs++[v0,v1,v2,v3,v4,v5,v6,v7]))(hl:xs.length=l.length*8)(hf:∀j,j<l.length→BdCells A w (fun i=>vat xs (j*8+i)) (at' l j))(hb:BdCells A w (fun i=>vat [v0,v1,v2,v3,v4,v5,v6,v7] i) b):BdsOwn A w v (l++[b]):=by
 refine⟨_,by rw[List.length_append];exact hx,fun j hj=>?_⟩;have key:∀{f g:Nat→Value}{b:Bd},BdCells A w f b→(∀i,i<8→g i=f i)→BdCells A w g b:=fun h e=>⟨(e 0 (by omega)).trans h.c0,(e 1 (by omega)).trans h.c1,(e 2 (by omega)).trans h.c2,(e 3 (by omega)).trans h.c3,(e 4 (by omega)).trans h.c4,by rw[e 5 (by omega)];exact h.c5,by rw[e 6 (by omega)];exact h.c6,by rw[e 7 (by omega)];exact h.c7,h.ok⟩;by_cases hjl:j<l.length;·(have e1:at' (l++[b]) j=at' l j:=by simp[at',List.getD_eq_getElem?_getD,List.getElem?_append_left hjl]);rw[e1];refine key (hf j hjl) fun i hi=>?_;simp only[vat,List.getD_eq_getElem?_getD];rw[List.getElem?_append_left (by omega)]
 ·(obtain rfl:j=l.length:=by simp at hj;omega);(have e1:at' (l++[b]) l.length=b:=by simp[at']);rw[e1];refine key hb fun i hi=>?_;simp only[vat,List.getD_eq_getElem?_getD];rw[List.getElem?_append_right (by omega),show l.length*8+i-xs.length=i by omega]
end Go.Proofs.YtnjfnellghhkaaaGreatDoor
