/- Contracts and plain lemmas (CgA, CgB, CgC, CgD, PCg, CgE, Elem, StepZ, RowSet): no statement of the seat is proved here. -/
import Derived.Test.YtnjfnellghhkaaaGreatDoorYa4
import Derived.Deep.RegionHeld3
set_option linter.unusedSimpArgs false
set_option linter.unusedVariables false
set_option linter.unusedSectionVars false
set_option maxRecDepth 100000
set_option maxHeartbeats 1600000
namespace Go.Proofs.YtnjfnellghhkaaaGreatDoor
open Go.RowKit
variable {A:Nat → Prop}{B:Nat}{D:Nat → Prop}{D':Nat → Prop}{Q:Exit → Act → World → Prop}{a:Act}{b:Nat}{base:Nat}{cs:Array Value}{e:Nat}{g:Nat}{j:Nat}{k:Nat}{l:List Nd}{n:Nd}{o:Oper}{ops:Array Oper}{rest:List Oper}{s:ByteArray}{u:Value}{v:Value}{w:World}{w':World}{w0:World}{x:Obj}{y:Obj}
theorem zaD{a b c d:Value}(h:NdAt A w (.agg #[a,b,c,d]) n):a=.int .u8 n.kind∧b=.int .i64 n.num∧c=.string n.name∧KidsAt A w d n.kids∧n.Ok1:=by obtain⟨h1,kv,he,h2⟩:=h;simp only[Value.agg.injEq,Array.mk.injEq,List.cons.injEq,and_true]at he;obtain⟨rfl,rfl,rfl,rfl⟩:=he;exact⟨rfl,rfl,rfl,h2,h1⟩
theorem zcV(h:w.heap[g]?=some (.cells cs 30 (0,0)))(hA:A g)(hl:l.length≤1000)(hc:∀j,j<l.length→∃d,cs[j*4]?=some (.int .u8 (at' l j).kind)∧cs[j*4+1]?=some (.int .i64 (at' l j).num)∧cs[j*4+2]?=some (.string (at' l j).name)∧cs[j*4+3]?=some d∧KidsAt A w d (at' l j).kids∧(at' l j).Ok1):KidsAt A w (.slice (some ⟨g,0,none⟩) l.length l.length) l:=by
 refine .mk _ l (fun j i=>cs.getD (j*4+i) undef) ⟨by unfold maxLen;omega,_,_,rfl,Nat.le_refl _,nofun,fun _=>⟨g,0,rfl,by rw[Array.getElem?_eq_some_iff]at h;exact h.1,hA,fun j hj i hi=>?_⟩⟩ (fun j hj=>?_) (fun j hj=>?_);·obtain⟨d,h0,h1,h2,h3,_⟩:=hc j hj;(have e:(0:Nat)+j*4+i=j*4+i:=by omega);rw[e];simp only[World.cell?,h];match i,hi with|0,_=>simp only[Nat.add_zero,h0];simp[Array.getD_eq_getD_getElem?,h0]|1,_=>simp only[h1];simp[Array.getD_eq_getD_getElem?,h1]|2,_=>simp only[h2];simp[Array.getD_eq_getD_getElem?,h2]|3,_=>simp only[h3];simp[Array.getD_eq_getD_getElem?,h3]
 ·obtain⟨d,h0,h1,h2,h3,_,h5⟩:=hc j hj;exact⟨by simp[Array.getD_eq_getD_getElem?,h0],by simp[Array.getD_eq_getD_getElem?,h1],by simp[Array.getD_eq_getD_getElem?,h2],h5⟩
 ·obtain⟨d,h0,h1,h2,h3,h4,_⟩:=hc j hj;(have:cs.getD (j*4+3) undef=d:=by simp[Array.getD_eq_getD_getElem?,h3]);rw[this];exact h4
theorem zbh{a b c d:Value}(h:w.heap[g]?=some (.cells #[a,b,c,d] 30 (0,0)))(hA:A g)(h1:NdAt A w (.agg #[a,b,c,d]) n):KidsAt A w (.slice (some ⟨g,0,none⟩) 1 1) [n]:=by obtain⟨rfl,rfl,rfl,k1,o1⟩:=zaD h1;refine zcV (l:=[n]) h hA (by simp) (fun j hj=>?_);match j,hj with|0,_=>exact⟨d,rfl,rfl,rfl,rfl,k1,o1⟩
theorem zdu{a b c d a' b' c' d':Value}{n':Nd}(h:w.heap[g]?=some (.cells #[a,b,c,d,a',b',c',d'] 30 (0,0)))(hA:A g)(h1:NdAt A w (.agg #[a,b,c,d]) n)(h2:NdAt A w (.agg #[a',b',c',d']) n'):KidsAt A w (.slice (some ⟨g,0,none⟩) 2 2) [n,n']:=by obtain⟨rfl,rfl,rfl,k1,o1⟩:=zaD h1;obtain⟨rfl,rfl,rfl,k2,o2⟩:=zaD h2;refine zcV (l:=[n,n']) h hA (by simp) (fun j hj=>?_);match j,hj with|0,_=>exact⟨d,rfl,rfl,rfl,rfl,k1,o1⟩|1,_=>exact⟨d',rfl,rfl,rfl,rfl,k2,o2⟩
theorem zgZ{a b c d a' b' c' d' a2 b2 c2 d2:Value}{n' n2:Nd}(h:w.heap[g]?=some (.cells #[a,b,c,d,a',b',c',d',a2,b2,c2,d2] 30 (0,0)))(hA:A g)(h1:NdAt A w (.agg #[a,b,c,d]) n)(h2:NdAt A w (.agg #[a',b',c',d']) n')(h3:NdAt A w (.agg #[a2,b2,c2,d2]) n2):KidsAt A w (.slice (some ⟨g,0,none⟩) 3 3) [n,n',n2]:=by obtain⟨rfl,rfl,rfl,k1,o1⟩:=zaD h1;obtain⟨rfl,rfl,rfl,k2,o2⟩:=zaD h2;obtain⟨rfl,rfl,rfl,k3,o3⟩:=zaD h3;refine zcV (l:=[n,n',n2]) h hA (by simp) (fun j hj=>?_);match j,hj with|0,_=>exact⟨d,rfl,rfl,rfl,rfl,k1,o1⟩|1,_=>exact⟨d',rfl,rfl,rfl,rfl,k2,o2⟩|2,_=>exact⟨d2,rfl,rfl,rfl,rfl,k3,o3⟩
theorem znm{a b c d a' b' c' d' a2 b2 c2 d2 a3 b3 c3 d3:Value}{n' n2 n3:Nd}(h:w.heap[g]?=some (.cells #[a,b,c,d,a',b',c',d',a2,b2,c2,d2,a3,b3,c3,d3] 30 (0,0)))(hA:A g)(h1:NdAt A w (.agg #[a,b,c,d]) n)(h2:NdAt A w (.agg #[a',b',c',d']) n')(h3:NdAt A w (.agg #[a2,b2,c2,d2]) n2)(h4:NdAt A w (.agg #[a3,b3,c3,d3]) n3):KidsAt A w (.slice (some ⟨g,0,none⟩) 4 4) [n,n',n2,n3]:=by obtain⟨rfl,rfl,rfl,k1,o1⟩:=zaD h1;obtain⟨rfl,rfl,rfl,k2,o2⟩:=zaD h2;obtain⟨rfl,rfl,rfl,k3,o3⟩:=zaD h3;obtain⟨rfl,rfl,rfl,k4,o4⟩:=zaD h4;refine zcV (l:=[n,n',n2,n3]) h hA (by simp) (fun j hj=>?_);match j,hj with|0,_=>exact⟨d,rfl,rfl,rfl,rfl,k1,o1⟩|1,_=>exact⟨d',rfl,rfl,rfl,rfl,k2,o2⟩|2,_=>exact⟨d2,rfl,rfl,rfl,rfl,k3,o3⟩|3,_=>exact⟨d3,rfl,rfl,rfl,rfl,k4,o4⟩
def vN(s:ByteArray):Nd:=.mk 2 0 s []
def numN(x:Int):Nd:=.mk 1 x ByteArray.empty []
def nodeN(k:Int)(s:ByteArray)(l:List Nd):Nd:=.mk k 0 s l
def blockN(l:List Nd):Nd:=nodeN 57 ByteArray.empty l
def plusN(s:ByteArray)(e:Nd):Nd:=nodeN 40 ByteArray.empty [vN s,e]
def callN(p:ByteArray)(args:List ByteArray):Nd:=nodeN 50 p (args.map vN)
theorem zaL{k:Int}{kv:Value}(h:KidsAt A w kv l)(hk:0≤k∧k≤255)(hs:s.size≤maxLen):NdAt A w (.agg #[.int .u8 k,.int .i64 0,.string s,kv]) (nodeN k s l):=⟨⟨hk,by unfold In64;exact⟨by show(-9223372036854775808:Int)≤0;omega,by show(0:Int)≤9223372036854775807;omega⟩,hs⟩,kv,rfl,h⟩
theorem nd_v(hs:s.size≤maxLen):NdAt A w (.agg #[.int .u8 2,.int .i64 0,.string s,.slice none 0 0]) (vN s):=zaL (KidsAt.nil _) (by omega) hs
theorem zhc{x:Int}(hx:In64 x):NdAt A w (.agg #[.int .u8 1,.int .i64 x,.string ⟨#[]⟩,.slice none 0 0]) (numN x):=⟨⟨⟨by show(0:Int)≤1;omega,by show(1:Int)≤255;omega⟩,hx,Nat.zero_le _⟩,_,rfl,KidsAt.nil _⟩
theorem cells4{v0 v1 v2 v3:Value}(h:w.heap[b]?=some (.cells #[v0,v1,v2,v3] e (0,0))):w.cell? ⟨b,0,none⟩=some v0∧w.cell? ⟨b,1,none⟩=some v1∧w.cell? ⟨b,2,none⟩=some v2∧w.cell? ⟨b,3,none⟩=some v3:=⟨zae h 0 rfl,zae h 1 rfl,zae h 2 rfl,zae h 3 rfl⟩
theorem set4{v0 v1 v2 v3:Value}(h:w.heap[b]?=some (.cells #[v0,v1,v2,v3] e (0,0)))(x0 x1 x2 x3:Value):((((w.setCell ⟨b,0,none⟩ x0).setCell ⟨b,1,none⟩ x1).setCell ⟨b,2,none⟩ x2).setCell ⟨b,3,none⟩ x3).heap[b]?=some (.cells #[x0,x1,x2,x3] e (0,0)):=by have h3:=heap_setCell_same _ b 3 _ _ x3 (heap_setCell_same _ b 2 _ _ x2 (heap_setCell_same _ b 1 _ _ x1 (heap_setCell_same w b 0 _ _ x0 h)));simpa only[List.setIfInBounds_toArray,List.set_cons_zero,List.set_cons_succ]using h3
theorem NdAt.form(h:NdAt A w v n):∃ka kc,v=.agg #[.int .u8 n.kind,.int .i64 n.num,.string n.name,.slice ka n.kids.length kc]:=by obtain⟨_,_,ka,kc,e,_⟩:=h.open;exact⟨ka,kc,e⟩
theorem zdV(k:Int)(s:ByteArray)(ka:Option Addr)(n kc:Nat)(w:World):Calls Tryz.prog 112 #[.int .u8 k,.string s,.slice ka n kc] w fun e w'=>e=.returned (.agg #[.int .u8 k,.int .i64 0,.string s,.slice ka n kc])∧Below w.heap.size w w':=by go_enter Tryz.func112,Tryz.ntmps112;go_wp2;go_returns;exact⟨rfl,(Below.refl _ _).alloc (Nat.le_refl _) _⟩
theorem zcy(s:ByteArray)(w:World):Calls Tryz.prog 114 #[.string s] w fun e w'=>e=.returned (.agg #[.int .u8 2,.int .i64 0,.string s,.slice none 0 0])∧Below w.heap.size w w':=by go_enter Tryz.func114,Tryz.ntmps114;go_wp2;go_returns;exact⟨rfl,(Below.refl _ _).alloc (Nat.le_refl _) _⟩
theorem zhe(x:Int)(w:World):Calls Tryz.prog 115 #[.int .i64 x] w fun e w'=>e=.returned (.agg #[.int .u8 1,.int .i64 x,.string ⟨#[]⟩,.slice none 0 0])∧Below w.heap.size w w':=by go_enter Tryz.func115,Tryz.ntmps115;go_wp2;go_returns;exact⟨rfl,(Below.refl _ _).alloc (Nat.le_refl _) _⟩
theorem zdI(ka:Option Addr)(n kc:Nat)(w:World):Calls Tryz.prog 92 #[.slice ka n kc] w fun e w'=>e=.returned (.agg #[.int .u8 57,.int .i64 0,.string ⟨#[]⟩,.slice ka n kc])∧Below w.heap.size w w':=by have hA:Below w.heap.size w (w.alloc (.cells #[.int .u8 0,.int .i64 0,.string ⟨#[]⟩,.slice none 0 0] 30)):=(Below.refl _ _).alloc (Nat.le_refl _) _;have hn:=zag w (.cells #[.int .u8 0,.int .i64 0,.string ⟨#[]⟩,.slice none 0 0] 30);have HN:=Lib.hid (zdV 57 ⟨#[]⟩ ka n kc (w.alloc (.cells #[.int .u8 0,.int .i64 0,.string ⟨#[]⟩,.slice none 0 0] 30)));have HB:=Lib.hid hn;clear hn;go_enter Tryz.func92,Tryz.ntmps92;go_wp2_with(go_at_call 112;refine HN.out.mono ?_;rintro e w1⟨rfl,hb⟩;have hr:=(hb.block w.heap.size (by simp)).trans HB.out;obtain⟨r0,r1,r2,r3⟩:=cells4 hr;have f:=unfrozen hr;have HR:=Lib.hid hr;clear hr);(try simp only[Exit.inBlock,Exit.then]);refine bodyPost_ret (results_cell_row (P:=Tryz.prog) rfl _ _ w.heap.size _ _ _ _ rfl (set4 HR.out _ _ _ _) Tryz.underlying30 rfl (by kernel_rfl)) rfl ?_;exact⟨rfl,(((((hA.trans (hb.mono hA.size)).setCell (Nat.le_refl _) _).setCell (Nat.le_refl _) _).setCell (Nat.le_refl _) _).setCell (Nat.le_refl _) _)⟩
theorem TNd:RowT Tryz.prog 28 30 (.agg #[.int .u8 0,.int .i64 0,.string ByteArray.empty,.slice none 0 0]) 4 56:=⟨Tryz.underlying28,by kernel_rfl⟩
def NewB(A:Nat→Prop)(w:World)(k:Nat):Prop:=A k∨w.heap.size≤k
theorem zie(h:Below w.heap.size w w'):Stays A (NewB A w) w w':=⟨h.size,fun b hb a=>⟨h.block b hb,.inl a⟩⟩
structure NdC (A:Nat→Prop) (w:World) (c:Nat→Value) (n:Nd):Prop where
 c0:c 0=.int .u8 n.kind
 c1:c 1=.int .i64 n.num
 c2:c 2=.string n.name
 c3:KidsAt A w (c 3) n.kids
 ok:n.Ok1
theorem NdC.stays{A':Nat→Prop}(hs:Stays A A' w w'){c:Nat→Value}(h:NdC A w c n):NdC A' w' c n:=⟨h.c0,h.c1,h.c2,h.c3.stays hs,h.ok⟩
theorem NdC.congr{c d:Nat→Value}(h:NdC A w c n)(e:∀i,i<4→d i=c i):NdC A w d n:=⟨(e 0 (by omega)).trans h.c0,(e 1 (by omega)).trans h.c1,(e 2 (by omega)).trans h.c2,by rw[e 3 (by omega)];exact h.c3,h.ok⟩
def KidsOwn(D:Nat→Prop)(base:Nat)(w:World)(v:Value)(l:List Nd):Prop:=∃xs,w.ownsRow base 30 4 v l.length xs∧∀j,j<l.length→NdC (fun k=>D k∧v.ownBlock≠some k) w (fun i=>vat xs (j*4+i)) (at' l j)
theorem KidsOwn.nil(D:Nat→Prop)(base:Nat)(w:World):KidsOwn D base w (.slice none 0 0) []:=⟨[],World.ownsRow_nil _ _ _ _,fun j hj=>by simp at hj⟩
theorem KidsOwn.form(h:KidsOwn D base w v l):∃a c,v=.slice a l.length c:=by obtain⟨xs,h,_⟩:=h;exact zas h
theorem KidsOwn.lt(h:KidsOwn D base w v l)(e:v.ownBlock=some k):base≤k∧k<w.heap.size:=by obtain⟨xs,h,_⟩:=h;exact h.lt k e
theorem KidsOwn.below(h:KidsOwn D base w v l)(hb:Below w.heap.size w w'):KidsOwn D base w' v l:=by obtain⟨xs,h1,h2⟩:=h;exact⟨xs,zaU h1 hb,fun j hj=>(h2 j hj).stays (Stays.of_below hb)⟩
theorem KidsOwn.shut(h:KidsOwn D base w v l)(hA:∀k,D k→A k)(hv:∀k,v.ownBlock=some k→A k)(hl:l.length≤maxLen):KidsAt A w v l:=by
 obtain⟨xs,hx,hf⟩:=h;have hs:Stays (fun k=>D k∧v.ownBlock≠some k) A w w:=⟨Nat.le_refl _,fun b hb a=>⟨rfl,hA b a.1⟩⟩;refine .mk v l (fun j i=>vat xs (j*4+i)) ⟨hl,?_⟩ (fun j hj=>?_) (fun j hj=>((hf j hj).stays hs).c3);·obtain⟨h0,⟨rfl,h1⟩|⟨g,cap,cur,rfl,hg,hh,hn,hm,hc,ht⟩⟩:=hx;(·exact⟨none,0,by rw[h1],by omega,fun _=>rfl,fun h=>by omega⟩);·(have hgl:g<w.heap.size:=by rw[Array.getElem?_eq_some_iff]at hh;exact hh.1);refine⟨_,cap,rfl,hn,nofun,fun hp=>⟨g,0,rfl,hgl,hv g rfl,fun j hj i hi=>?_⟩⟩;(have hlt:j*4+i<xs.length:=by omega);(have e:(0:Nat)+j*4+i=j*4+i:=by omega);rw[e];simp only[World.cell?,hh,vat,List.getD_eq_getElem?_getD];(have hx2:xs[j*4+i]?=cur[j*4+i]?:=by rw[←ht,List.getElem?_take,if_pos (by omega)];simp);rw[←hx2,List.getElem?_eq_getElem hlt];rfl
 ·have:=(hf j hj).stays hs;exact⟨this.c0,this.c1,this.c2,this.ok⟩
theorem KidsAt.src{m:List Nd}(h:KidsAt A w u m):∃news:List Value,news.length=m.length*4∧(u=.slice none 0 0∧m.length=0∧news=[]∨∃ad c,u=.slice (some ad) m.length c∧∀j x,news[j]?=some x→w.cell? (ad.add j)=some x)∧(∀x∈news,x.oneCell'=true)∧∀j,j<m.length→NdC A w (fun i=>vat news (j*4+i)) (at' m j):=by cases h with|mk _ _ cs h hf hk=>obtain⟨h0,a,cap,rfl,h1,h2,h3⟩:=h;refine⟨(List.range (m.length*4)).map (fun j=>cs (j/4) (j%4)),by simp,?_,?_,?_⟩;(·cases a with|none=>have hc:=h2 rfl;(have hm:m.length=0:=by omega);exact .inl ⟨by rw[hc,hm],hm,by simp[hm]⟩|some ad=>refine .inr ⟨ad,cap,rfl,fun j x hj=>?_⟩;(have hjl:j<m.length*4:=by rcases Nat.lt_or_ge j (m.length*4)with h|h;(·exact h);·rw[List.getElem?_eq_none (by simpa using h)]at hj;simp at hj);obtain⟨b,off,he,hb,hA,hc⟩:=h3 (by omega);simp only[Option.some.injEq]at he;subst he;rw[List.getElem?_map,List.getElem?_range hjl]at hj;simp only[Option.map_some,Option.some.injEq]at hj;subst hj;(have e0:(⟨b,off,none⟩:Addr).add j=⟨b,off+j,none⟩:=by simp only[Addr.add];split;(·subst_vars;rfl);·rfl);rw[e0,←hc (j/4) (by omega) (j%4) (by omega)];congr 2;omega);(·intro x hx;simp only[List.mem_map,List.mem_range]at hx;obtain⟨j,hj,rfl⟩:=hx;(have hq:j/4<m.length:=by omega);obtain⟨e0,e1,e2,_⟩:=hf (j/4) hq;have hkf:=(hk (j/4) hq).form;obtain⟨_,ka,kc,e3⟩:=hkf;have hr:j%4<4:=Nat.mod_lt _ (by omega);match hj4:j%4,hr with|0,_=>rw[e0];rfl|1,_=>rw[e1];rfl|2,_=>rw[e2];rfl|3,_=>rw[e3];rfl);·intro j hj;obtain⟨e0,e1,e2,e3⟩:=hf j hj;(have key:∀i,i<4→vat ((List.range (m.length*4)).map (fun j=>cs (j/4) (j%4))) (j*4+i)=cs j i:=fun i hi=>by simp only[vat,List.getD_eq_getElem?_getD];rw[List.getElem?_map,List.getElem?_range (by omega)];(have a1:(j*4+i)/4=j:=by omega);(have a2:(j*4+i)%4=i:=by omega);simp[a1,a2]);exact⟨(key 0 (by omega)).trans e0,(key 1 (by omega)).trans e1,(key 2 (by omega)).trans e2,by show KidsAt A w (vat _ (j*4+3)) _;rw[key 3 (by omega)];exact hk j hj,e3⟩
theorem zbA{α:Type} [Inhabited α]{l m:List α}(h:j<l.length):at' (l++m) j=at' l j:=by simp[at',List.getD_eq_getElem?_getD,List.getElem?_append_left h]
theorem zbz{α:Type} [Inhabited α]{l m:List α}(h:l.length≤j):at' (l++m) j=at' m (j-l.length):=by simp[at',List.getD_eq_getElem?_getD,List.getElem?_append_right h]
theorem zls(hgd:o.guard=none)(s x:Operand)(ho:o.op=.call {callee:=.builtin .append,args:=#[s,x],argTypes:=#[28,28]}){m:List Nd}(hs:a.eval s=v)(hx:a.eval x=u)(hown:KidsOwn D base w v l)(hu:KidsAt D' w u m)(hD:∀b,b<w.heap.size→D' b→D b∧v.ownBlock≠some b)(hl:l.length+m.length≤1000000)(hbase:base≤w.heap.size)(h:∀a' c' w1,KidsOwn D base w1 (.slice a' (l.length+m.length) c') (l++m)→w.grownBy w1 v.ownBlock→wpList Tryz.prog ops Q rest (a.put o.dst (.slice a' (l.length+m.length) c')) w1):wpList Tryz.prog ops Q (o::rest) a w:=by
 obtain⟨xs,hrow,hf⟩:=hown;obtain⟨news,n1,n2,n3,n4⟩:=hu.src;refine zbp TNd rfl (by decide) hgd s x ho hs hx hrow n2 n1 n3 (by unfold maxLen;omega) (by omega) hbase ?_;intro v' w1 h1 h2 h3;obtain⟨a',c',rfl⟩:=zas h1;refine h a' c' w1 ⟨xs++news,by rw[List.length_append];exact h1,fun j hj=>?_⟩ h2;have key:∀b,b<w.heap.size→v.ownBlock≠some b→w1.heap[b]?=w.heap[b]?∧(Value.slice a' (l.length+m.length) c').ownBlock≠some b:=fun b hb hne=>by refine⟨h2.block b hb (fun e=>hne e.symm),fun e=>?_⟩;rcases h3 b e with e|e;(·exact hne e);·omega
 have hst1:Stays (fun k=>D k∧v.ownBlock≠some k) (fun k=>D k∧(Value.slice a' (l.length+m.length) c').ownBlock≠some k) w w1:=⟨h2.size,fun b hb hne=>⟨(key b hb hne.2).1,hne.1,(key b hb hne.2).2⟩⟩;have hst2:Stays D' (fun k=>D k∧(Value.slice a' (l.length+m.length) c').ownBlock≠some k) w w1:=⟨h2.size,fun b hb hd=>⟨(key b hb (hD b hb hd).2).1,(hD b hb hd).1,(key b hb (hD b hb hd).2).2⟩⟩;have hxl:=hrow.1;by_cases hjl:j<l.length;·rw[zbA hjl];refine((hf j hjl).stays hst1).congr fun i hi=>?_;simp only[vat,List.getD_eq_getElem?_getD];rw[List.getElem?_append_left (by omega)]
 ·(have hjm:j-l.length<m.length:=by rw[List.length_append]at hj;omega);rw[zbz (by omega)];refine((n4 _ hjm).stays hst2).congr fun i hi=>?_;simp only[vat,List.getD_eq_getElem?_getD];rw[List.getElem?_append_right (by omega),show j*4+i-xs.length=(j-l.length)*4+i by omega]
theorem zno(ka:Option Addr)(n kc:Nat)(w:World):Calls Tryz.prog 139 #[.slice ka n kc] w fun e w'=>e=.returned (.slice ka n kc)∧w=w':=by go_enter Tryz.func139,Tryz.ntmps139;go_wp2;go_ret;exact⟨rfl,rfl⟩
theorem znu(s:ByteArray)(v:Value)(x:Nd)(A:Nat→Prop)(w:World)(hv:NdAt A w v x)(hs:s.size≤maxLen):Calls Tryz.prog 138 #[.string s,v] w fun e w'=>∃u,e=.returned u∧KidsAt (NewB A w) w' u [plusN s x]∧Below w.heap.size w w':=by
 obtain⟨hok,hlen,ka,kc,rfl,hk⟩:=hv.open;have hA:Below w.heap.size w (w.alloc (.cells #[.int .u8 x.kind,.int .i64 x.num,.string x.name,.slice ka x.kids.length kc] 30)):=(Below.refl _ _).alloc (Nat.le_refl _) _;have hn:=zag w (.cells #[.int .u8 x.kind,.int .i64 x.num,.string x.name,.slice ka x.kids.length kc] 30);have hws:w.heap.size<(w.alloc (.cells #[.int .u8 x.kind,.int .i64 x.num,.string x.name,.slice ka x.kids.length kc] 30)).heap.size:=by simp
 have HV:=Lib.hid hv;have HN:=Lib.hid hn;clear hv hk hn;go_enter Tryz.func138,Tryz.ntmps138;go_wp2;generalize(w.alloc (.cells #[.int .u8 x.kind,.int .i64 x.num,.string x.name,.slice ka x.kids.length kc] 30))=W at*;have hD:Below W.heap.size W W.drew:=zak (Below.refl _ _) 1;have HSA:Hid (∀w1,Below W.heap.size W w1→w1.cell? ⟨w.heap.size,0,none⟩=some (.int .u8 x.kind)∧w1.cell? ⟨w.heap.size,1,none⟩=some (.int .i64 x.num)∧w1.cell? ⟨w.heap.size,2,none⟩=some (.string x.name)∧w1.cell? ⟨w.heap.size,3,none⟩=some (.slice ka x.kids.length kc)):=Lib.hid (fun w1 hb=>cells4 ((hb.block w.heap.size hws).trans HN.out));go_region_held3(fun w1=>w1.cell? ⟨w.heap.size,0,none⟩=some (.int .u8 x.kind)∧w1.cell? ⟨w.heap.size,1,none⟩=some (.int .i64 x.num)∧w1.cell? ⟨w.heap.size,2,none⟩=some (.string x.name)∧w1.cell? ⟨w.heap.size,3,none⟩=some (.slice ka x.kids.length kc))(first|with_reducible exact HSA.out _ hD|with_reducible exact HSA.out _ hb1|with_reducible exact HSA.out _ hb1a|with_reducible exact HSA.out _ hb2|with_reducible exact HSA.out _ hb2a)(first|(go_at_call 114;refine(zcy s _).mono ?_;rintro e w1⟨rfl,hb1'⟩;have hb1:=hD.trans (hb1'.mono hD.size);have hb1a:Below W.heap.size W (w1.alloc (.cells #[.int .u8 2,.int .i64 0,.string s,.slice none 0 0,.int .u8 x.kind,.int .i64 x.num,.string x.name,.slice ka x.kids.length kc] 30)):=hb1.alloc hb1.size _)|(go_at_call 112;refine(zdV 40 ⟨#[]⟩ _ 2 2 _).mono ?_;rintro e w2⟨rfl,hb2'⟩;have hb2:=hb1a.trans (hb2'.mono hb1a.size);have hb2a:Below W.heap.size W (w2.alloc (.cells #[.int .u8 40,.int .i64 0,.string ⟨#[]⟩,.slice (some ⟨w1.heap.size,0,none⟩) 2 2] 30)):=hb2.alloc hb2.size _)|(go_at_call 139;refine(zno _ _ _ _).mono ?_;rintro e w3⟨rfl,rfl⟩));all_goals go_wp2;go_ret;have g1:=heap_alloc_new w1 (.cells #[.int .u8 2,.int .i64 0,.string s,.slice none 0 0,.int .u8 x.kind,.int .i64 x.num,.string x.name,.slice ka x.kids.length kc] 30);have g2:=heap_alloc_new w2 (.cells #[.int .u8 40,.int .i64 0,.string ⟨#[]⟩,.slice (some ⟨w1.heap.size,0,none⟩) 2 2] 30);have hz1:=hb1.size;have hz2:=hb2.size;have k1:=zdu (A:=NewB A w) g1 (.inr (by omega)) (nd_v hs) (HV.out.stays ((zie (hA.trans (hb1a.mono hA.size)))));have hB2:Below (w1.alloc (.cells #[.int .u8 2,.int .i64 0,.string s,.slice none 0 0,.int .u8 x.kind,.int .i64 x.num,.string x.name,.slice ka x.kids.length kc] 30)).heap.size _ (w2.alloc (.cells #[.int .u8 40,.int .i64 0,.string ⟨#[]⟩,.slice (some ⟨w1.heap.size,0,none⟩) 2 2] 30)):=hb2'.alloc hb2'.size _;exact⟨_,rfl,zbh g2 (.inr (by omega)) (zaL (k1.stays (Stays.of_below hB2)) (by omega) (Nat.zero_le _)),hA.trans (hb2a.mono hA.size)⟩
def argN(args:List ByteArray)(i:Nat):ByteArray:=args.getD i ByteArray.empty
theorem zmV(i:Nat)(tn nm:ByteArray)(l:Bool)(op num:Int)(av hv ev:Option Addr)(ac hn hc en ec:Nat)(args:List ByteArray)(A:Nat→Prop)(w:World)(ha:StrsAt A w (.slice av args.length ac) args)(hi:i≤10):Calls Tryz.prog 137 #[.agg #[.string tn,.bool l,.int .u8 op,.int .i64 num,.string nm,.slice av args.length ac,.slice hv hn hc,.slice ev en ec],.int .i64 i] w fun e w'=>e=.returned (.string (argN args i))∧Below w.heap.size w w':=by
 obtain⟨hll,_⟩:=ha.form;unfold maxLen at hll;have hA:Below w.heap.size w (w.alloc (.cells #[.string tn,.bool l,.int .u8 op,.int .i64 num,.string nm,.slice av args.length ac,.slice hv hn hc,.slice ev en ec] 141)):=(Below.refl _ _).alloc (Nat.le_refl _) _;by_cases hlt:i<args.length;·obtain⟨b,off,cap,he,hb,_,_,c0,_⟩:=(ha.stays (Stays.of_below hA)).at hlt;simp only[Value.slice.injEq]at he;obtain⟨rfl,-,rfl⟩:=he;(have d:decide ((i:Int)<(args.length:Int))=true:=by simp;omega);(have i0:(0:Int)≤(i:Int):=by omega);have HR:Hid (argN args i=at' args i):=Lib.hid (by rw[zam hlt,argN,List.getD_eq_getElem?_getD,List.getElem?_eq_getElem hlt];rfl);clear ha;go_enter Tryz.func137,Tryz.ntmps137;go_wp2;go_ret;rw[HR.out];exact⟨rfl,hA⟩
 ·(have d:decide ((i:Int)<(args.length:Int))=false:=by simp;omega);have HR:Hid (argN args i=ByteArray.empty):=Lib.hid (by rw[argN,List.getD_eq_getElem?_getD,List.getElem?_eq_none (by omega)];rfl);clear ha;go_enter Tryz.func137,Tryz.ntmps137;go_wp2;go_ret;rw[HR.out];exact⟨rfl,hA⟩
theorem zkN(p:ByteArray)(av:Value)(args:List ByteArray)(A:Nat→Prop)(w:World)(ha:StrsAt A w av args)(hp:p.size≤maxLen)(hl:args.length≤200000):Calls Tryz.prog 113 #[.string p,av] w fun e w'=>∃v,e=.returned v∧NdAt (fun k=>w.heap.size≤k) w' v (callN p args)∧Below w.heap.size w w':=by
 obtain⟨_,aa,ac,rfl⟩:=ha.form;have hA:Below w.heap.size w (w.alloc (.cells #[.int .u8 0,.int .i64 0,.string ⟨#[]⟩,.slice none 0 0] 30)):=(Below.refl _ _).alloc (Nat.le_refl _) _;have hn:=zag w (.cells #[.int .u8 0,.int .i64 0,.string ⟨#[]⟩,.slice none 0 0] 30);have hws:w.heap.size<(w.alloc (.cells #[.int .u8 0,.int .i64 0,.string ⟨#[]⟩,.slice none 0 0] 30)).heap.size:=by simp
 have HA:=Lib.hid ha;have HN:=Lib.hid hn;clear ha hn;go_enter Tryz.func113,Tryz.ntmps113;go_wp2;generalize(w.alloc (.cells #[.int .u8 0,.int .i64 0,.string ⟨#[]⟩,.slice none 0 0] 30))=W at*;go_loopw[10,5](fun i v wr=>∃k:Nat,i=.int .i64 k∧k≤args.length∧Below W.heap.size W wr∧KidsOwn (fun j=>W.heap.size≤j) W.heap.size wr v ((args.take k).map vN))(fun i _ _=>args.length-(intOf i).toNat);case atStart=>exact⟨0,rfl,Nat.zero_le _,Below.refl _ _,KidsOwn.nil _ _ _⟩
 case round=>obtain⟨k,rfl,hk,hbl,hown⟩:=hrel;(have hlk:((args.take k).map vN).length=k:=by simp;omega);obtain⟨va,vc,hv⟩:=hown.form;rw[hlk]at hv;subst hv;have HOWN:=Lib.hid hown;have HLK:=Lib.hid hlk;clear hown hlk;have hbw:Below w.heap.size w wr:=hA.trans (hbl.mono hA.size);by_cases hlt:k<args.length;(·obtain⟨b,off,cap,he,hb,_,_,c0,hsz⟩:=(HA.out.stays (Stays.of_below hbw)).at hlt;simp only[Value.slice.injEq]at he;obtain⟨rfl,-,rfl⟩:=he;have HTK:Hid ((args.take (k+1)).map vN=(args.take k).map vN++[vN (at' args k)]):=Lib.hid (by rw[List.take_add_one,List.getElem?_eq_getElem hlt,zam hlt,List.map_append];rfl);go_wp2_with fail;refine(zcy _ _).mono ?_;rintro e w1⟨rfl,hb1⟩;have hB1:Below W.heap.size W w1:=hbl.trans (hb1.mono hbl.size);have hBa:Below w1.heap.size w1 (w1.alloc (.cells #[.int .u8 2,.int .i64 0,.string (at' args k),.slice none 0 0] 30)):=(Below.refl _ _).alloc (Nat.le_refl _) _;have HK1:=Lib.hid (zbh (A:=fun j=>j=w1.heap.size) (heap_alloc_new w1 (.cells #[.int .u8 2,.int .i64 0,.string (at' args k),.slice none 0 0] 30)) rfl (nd_v hsz));have HO1:=Lib.hid ((HOWN.out.below hb1).below hBa);have HD:Hid (∀b,b<(w1.alloc (.cells #[.int .u8 2,.int .i64 0,.string (at' args k),.slice none 0 0] 30)).heap.size→b=w1.heap.size→W.heap.size≤b∧(Value.slice va k vc).ownBlock≠some b):=Lib.hid (fun b _ e=>⟨by have:=hbl.size;have:=hb1.size;omega,fun e2=>by have:=(HOWN.out.lt e2).2;have:=hb1.size;omega⟩);go_wp2_with(at_builtin;refine zls rfl (.tmp 14) (.tmp 17) rfl rfl rfl HO1.out HK1.out HD.out (by rw[HLK.out];simp;omega) (by have:=hB1.size;have:=hBa.size;omega) ?_;intro a' c' w3 h3 hg3;have H3:=Lib.hid h3;have HG3:Hid (World.grownBy _ w3 (Value.slice va k vc).ownBlock):=Lib.hid hg3;clear h3 hg3);refine⟨⟨k+1,by go_num,by omega,?_,by rw[HTK.out];have h3:=H3.out;rw[HLK.out]at h3;exact h3⟩,by simp[intOf];omega⟩;exact(hB1.trans (hBa.mono hB1.size)).grown HG3.out (Nat.le_trans hB1.size hBa.size) (fun j e=>(HOWN.out.lt e).1));·(obtain rfl:k=args.length:=by omega);(have hlt':¬(args.length:Int)<(args.length:Int):=by omega);(have hK:KidsAt (fun j=>W.heap.size≤j) wr (.slice va args.length vc) (args.map vN):=by have h1:=HOWN.out;rw[List.take_length]at h1;exact h1.shut (fun _ a=>a) (fun j e=>(h1.lt e).1) (by unfold maxLen;simp;omega));have HK:=Lib.hid hK;have HNO:=Lib.hid (zdV 50 p va args.length vc wr);have HRB:=Lib.hid ((hbl.block w.heap.size hws).trans HN.out);clear hK;go_wp2_with(go_at_call 112;refine HNO.out.mono ?_;rintro e w4⟨rfl,hb4⟩;have hr:=(hb4.block w.heap.size (Nat.lt_of_lt_of_le hws hbl.size)).trans HRB.out;obtain⟨r0,r1,r2,r3⟩:=cells4 hr;have f:=unfrozen hr;have HR:=Lib.hid hr;clear hr);(try simp only[Exit.inBlock,Exit.then]);refine bodyPost_ret (results_cell_row (P:=Tryz.prog) rfl _ _ w.heap.size _ _ _ _ rfl (set4 HR.out _ _ _ _) Tryz.underlying30 rfl (by kernel_rfl)) rfl ?_;have hB4:Below w.heap.size w w4:=hbw.trans (hb4.mono hbw.size);refine⟨_,rfl,?_,((((hB4.setCell (Nat.le_refl _) _).setCell (Nat.le_refl _) _).setCell (Nat.le_refl _) _).setCell (Nat.le_refl _) _)⟩;refine zaL ?_ (by omega) hp;have hK4:=(((zaf w4 w.heap.size 0 (.int .u8 50)).same (zaf _ w.heap.size 1 (.int .i64 0))).same (zaf _ w.heap.size 2 (.string p))).same (zaf _ w.heap.size 3 (.slice va args.length vc));exact(HK.out.stays (Stays.of_below hb4)).stays ⟨hK4.size,fun b hb a=>⟨hK4.block b hb (fun e=>by omega),by omega⟩⟩
def lcopyS:ByteArray:=bstr [108,99,111,112,121]
def headS:ByteArray:=bstr [104,48]
def outS:ByteArray:=bstr [111,117,116]
abbrev CallF:=ByteArray→ByteArray×List ByteArray
mutual
def bindN (cf:CallF):Bd→List Nd
 | .mk tn list op num name args thn els=>
   if op=80 then [plusN tn (numN num)]
   else if op=81 then (if list then [callN lcopyS [argN args 0,tn]] else [plusN tn (vN (argN args 0))])
   else if op=82 then [plusN tn (nodeN (num % 256) ByteArray.empty [vN (argN args 0),vN (argN args 1)])]
   else if op=83 then [nodeN 52 ByteArray.empty [vN (argN args 0),blockN (bindsN cf thn),blockN (bindsN cf els),vN (argN args 0)]]
   else if op=85 then [callN (cf name).1 (args ++ [tn] ++ (cf name).2)]
   else if op=87 then [callN lcopyS [argN args 1,tn],nodeN 54 headS [vN (argN args 0),blockN [nodeN 44 tn [vN headS]],numN 0]]
   else if op=88 then [plusN tn (nodeN 4 (argN args 0) [])]
   else if op=89 then [callN lcopyS [argN args 0,tn],nodeN 54 headS [numN 0,blockN [nodeN 45 tn [vN headS]],nodeN 4 (argN args 0) []]]
   else if op=90 then [plusN tn (nodeN 16 ByteArray.empty [nodeN 5 (argN args 0) [],numN 0])]
   else []
def bindsN (cf:CallF):List Bd→List Nd
 | []=>[]
 | b :: r=>bindN cf b ++ bindsN cf r
end
theorem zcO(cf:CallF):∀l m:List Bd,bindsN cf (l++m)=bindsN cf l++bindsN cf m|[],m=>by rw[List.nil_append,bindsN];rfl|b::l,m=>by rw[List.cons_append,bindsN,bindsN,zcO cf l m,List.append_assoc]
theorem zgc(cf:CallF){l:List Bd}(h:k<l.length):bindsN cf (l.take (k+1))=bindsN cf (l.take k)++bindN cf (at' l k):=by rw[List.take_add_one,List.getElem?_eq_getElem h,Option.toList_some,zcO,zam h,bindsN,bindsN,List.append_nil]
mutual
def sizeB:Bd→Nat
 | .mk _ _ _ _ _ args thn els=>args.length+sizeBs thn+sizeBs els+1
def sizeBs:List Bd→Nat
 | []=>0
 | b :: r=>sizeB b+sizeBs r
end
def Up(B:Nat)(k:Nat):Prop:=B≤k
theorem zbW{w1:World}(h:B≤w.heap.size):Stays (NewB (Up B) w) (Up B) w1 w1:=⟨Nat.le_refl _,fun b hb a=>⟨rfl,by rcases a with a|a;(·exact a);·exact Nat.le_trans h a⟩⟩
theorem zal(h:g=w.heap.size):(w.alloc x).heap[g]?=some x:=by subst h;exact heap_alloc_new w x
theorem zah(h:w.heap[g]?=some y):(w.alloc x).heap[g]?=some y:=by
 have hg:g<w.heap.size:=by rw[Array.getElem?_eq_some_iff]at h;exact h.1
 rw[Below.heap_alloc _ _ _ hg];exact h
theorem zaj(h:w.heap[g]?=some y):w.drew.heap[g]?=some y:=h
theorem zac(hb:Below w.heap.size w w')(h:w.heap[g]?=some y):w'.heap[g]?=some y:=by
 have hg:g<w.heap.size:=by rw[Array.getElem?_eq_some_iff]at h;exact h.1
 rw[hb.block g hg];exact h
theorem zaa(h:Below w.heap.size w w'):Below w.heap.size w (w'.alloc x):=h.alloc h.size x
theorem zad(h:Below w.heap.size w w'):Below w.heap.size w w'.drew:=zak h 1
theorem zab{w1 w2:World}(h:Below w1.heap.size w1 w2)(h0:Below w.heap.size w w1):Below w.heap.size w w2:=h0.trans (h.mono h0.size)
theorem znH(h:Below w.heap.size w w')(hB:B≤w.heap.size):B≤w'.heap.size:=Nat.le_trans hB h.size
theorem cellsB{v0 v1 v2 v3 v4 v5 v6 v7:Value}(h:w.heap[b]?=some (.cells #[v0,v1,v2,v3,v4,v5,v6,v7] e (0,0))):w.cell? ⟨b,0,none⟩=some v0∧w.cell? ⟨b,1,none⟩=some v1∧w.cell? ⟨b,2,none⟩=some v2∧w.cell? ⟨b,3,none⟩=some v3∧w.cell? ⟨b,4,none⟩=some v4∧w.cell? ⟨b,5,none⟩=some v5∧w.cell? ⟨b,6,none⟩=some v6∧w.cell? ⟨b,7,none⟩=some v7:=⟨zae h 0 rfl,zae h 1 rfl,zae h 2 rfl,zae h 3 rfl,zae h 4 rfl,zae h 5 rfl,zae h 6 rfl,zae h 7 rfl⟩
theorem zlQ(B:Nat)(s:ByteArray)(v:Value)(x:Nd)(w:World)(hB:B≤w.heap.size)(hv:NdAt (Up B) w v x)(hs:s.size≤maxLen):Calls Tryz.prog 138 #[.string s,v] w fun e w'=>∃ka kn kc,e=.returned (.slice ka kn kc)∧KidsAt (Up B) w' (.slice ka kn kc) [plusN s x]∧Below w.heap.size w w':=(znu s v x (Up B) w hv hs).mono fun e w'⟨u,he,hk,hb⟩=>by obtain⟨_,ka,kc,rfl⟩:=hk.form;exact⟨ka,_,kc,he,hk.stays (zbW hB),hb⟩
theorem zkO(B:Nat)(p:ByteArray)(aa:Option Addr)(an ac:Nat)(args:List ByteArray)(w:World)(hB:B≤w.heap.size)(ha:StrsAt A w (.slice aa an ac) args)(hp:p.size≤maxLen)(hl:args.length≤200000):Calls Tryz.prog 113 #[.string p,.slice aa an ac] w fun e w'=>∃ka kn kc,e=.returned (.agg #[.int .u8 50,.int .i64 0,.string p,.slice ka kn kc])∧NdAt (Up B) w' (.agg #[.int .u8 50,.int .i64 0,.string p,.slice ka kn kc]) (callN p args)∧Below w.heap.size w w':=(zkN p _ args A w ha hp hl).mono fun e w'⟨u,he,hk,hb⟩=>by obtain⟨ka,kc,rfl⟩:=hk.form;exact⟨ka,_,kc,he,hk.stays ⟨Nat.le_refl _,fun b _ a=>⟨rfl,Nat.le_trans hB a⟩⟩,hb⟩
theorem zbo{B':Nat}(h:B≤B'):Stays (Up B') (Up B) w w:=⟨Nat.le_refl _,fun b _ a=>⟨rfl,Nat.le_trans h a⟩⟩
def ClosOk(fv:Value)(cf:CallF)(w:World):Prop:=∃F caps,fv=.func (.func F) #[] caps∧(∀(args:Array Value)(w0:World),(callFunc F args).run Tryz.prog w0=.ok (.enter F args) w0)∧∀nm w1,nm.size≤maxLen→Below w.heap.size w w1→Calls Tryz.prog F (#[.string nm]++caps) w1 (fun e w2=>∃xa xn xc,e=.returned (.tuple #[.string (cf nm).1,.slice xa xn xc])∧StrsAt Any w2 (.slice xa xn xc) (cf nm).2∧Below w1.heap.size w1 w2)∧(cf nm).1.size≤maxLen∧(cf nm).2.length≤1000
theorem ClosOk.below{fv:Value}{cf:CallF}(h:ClosOk fv cf w)(hb:Below w.heap.size w w'):ClosOk fv cf w':=by obtain⟨F,caps,rfl,hE,h⟩:=h;exact⟨F,caps,rfl,hE,fun nm w1 hn h1=>h nm w1 hn (hb.trans (h1.mono hb.size))⟩
theorem zlu(tn nm:ByteArray)(l:Bool)(op num:Int)(av hv ev:Option Addr)(ac hn hc en ec:Nat)(args:List ByteArray)(A:Nat→Prop)(w:World)(ha:StrsAt A w (.slice av args.length ac) args):Calls Tryz.prog 137 #[.agg #[.string tn,.bool l,.int .u8 op,.int .i64 num,.string nm,.slice av args.length ac,.slice hv hn hc,.slice ev en ec],.int .i64 0] w fun e w'=>e=.returned (.string (argN args 0))∧Below w.heap.size w w':=zmV 0 tn nm l op num av hv ev ac hn hc en ec args A w ha (by omega)
theorem zlv(tn nm:ByteArray)(l:Bool)(op num:Int)(av hv ev:Option Addr)(ac hn hc en ec:Nat)(args:List ByteArray)(A:Nat→Prop)(w:World)(ha:StrsAt A w (.slice av args.length ac) args):Calls Tryz.prog 137 #[.agg #[.string tn,.bool l,.int .u8 op,.int .i64 num,.string nm,.slice av args.length ac,.slice hv hn hc,.slice ev en ec],.int .i64 1] w fun e w'=>e=.returned (.string (argN args 1))∧Below w.heap.size w w':=zmV 1 tn nm l op num av hv ev ac hn hc en ec args A w ha (by omega)
theorem zcM{args:List ByteArray}(h:StrsAt A w v args)(i:Nat):(argN args i).size≤maxLen:=by
 by_cases hi:i<args.length;·obtain⟨_,_,_,_,_,_,_,_,hs⟩:=h.at hi;rw[zam hi]at hs;rw[argN,List.getD_eq_getElem?_getD,List.getElem?_eq_getElem hi];exact hs
 ·rw[argN,List.getD_eq_getElem?_getD,List.getElem?_eq_none (by omega)];exact Nat.zero_le _
theorem znG{a b:ByteArray}(h:w.heap[g]?=some (.cells #[.string a,.string b] 9 (0,0)))(hA:A g)(h1:a.size≤maxLen)(h2:b.size≤maxLen):StrsAt A w (.slice (some ⟨g,0,none⟩) 2 2) [a,b]:=by
 have hg:g<w.heap.size:=by rw[Array.getElem?_eq_some_iff]at h;exact h.1
 refine⟨fun j _=>.string (at' [a,b] j),⟨by unfold maxLen;simp,_,_,rfl,Nat.le_refl _,nofun,fun _=>⟨g,0,rfl,hg,hA,fun j hj i hi=>?_⟩⟩,fun j hj=>?_⟩;·(obtain rfl:i=0:=by omega);match j,hj with|0,_=>exact zae h 0 rfl|1,_=>exact zae h 1 rfl
 ·match j,hj with|0,_=>exact⟨rfl,h1⟩|1,_=>exact⟨rfl,h2⟩
def NewBlk(w0 w:World)(g:Nat)(o:Obj):Prop:=w.heap[g]?=some o∧w0.heap.size≤g
theorem zfO(hb:Below w0.heap.size w0 w)(h:g=w.heap.size):NewBlk w0 (w.alloc x) g x:=⟨zal h,by have:=hb.size;omega⟩
theorem zcY(h:NewBlk w0 w g y):NewBlk w0 (w.alloc x) g y:=⟨zah h.1,h.2⟩
theorem zdU(h:NewBlk w0 w g y):NewBlk w0 w.drew g y:=h
theorem zcZ(hb:Below w.heap.size w w')(h:NewBlk w0 w g y):NewBlk w0 w' g y:=⟨zac hb h.1,h.2⟩
theorem kidsU2{a b c d a' b' c' d':Value}{n':Nd}(h:NewBlk w0 w g (.cells #[a,b,c,d,a',b',c',d'] 30 (0,0)))(h1:NdAt (Up w0.heap.size) w (.agg #[a,b,c,d]) n)(h2:NdAt (Up w0.heap.size) w (.agg #[a',b',c',d']) n'):KidsAt (Up w0.heap.size) w (.slice (some ⟨g,0,none⟩) 2 2) [n,n']:=zdu h.1 h.2 h1 h2
def StmtsPost(l:List Nd)(w:World)(e:Ending)(w':World):Prop:=∃ka kn kc,e=.returned (.slice ka kn kc)∧KidsAt (Up w.heap.size) w' (.slice ka kn kc) l∧Below w.heap.size w w'
theorem zbq{o:Obj}{x0 x1 x2 x3:Value}(h:w.heap[b]?=some o)(hne:b≠g):((((w.setCell ⟨g,0,none⟩ x0).setCell ⟨g,1,none⟩ x1).setCell ⟨g,2,none⟩ x2).setCell ⟨g,3,none⟩ x3).heap[b]?=some o:=by
 have hk:=(((zaf w g 0 x0).same (zaf _ g 1 x1)).same (zaf _ g 2 x2)).same (zaf _ g 3 x3);have hb:b<w.heap.size:=by rw[Array.getElem?_eq_some_iff]at h;exact h.1
 rw[hk.block b hb hne];exact h
theorem zar{x0 x1 x2 x3:Value}(h:Below w0.heap.size w0 w)(hg:w0.heap.size≤g):Below w0.heap.size w0 ((((w.setCell ⟨g,0,none⟩ x0).setCell ⟨g,1,none⟩ x1).setCell ⟨g,2,none⟩ x2).setCell ⟨g,3,none⟩ x3):=(((h.setCell hg _).setCell hg _).setCell hg _).setCell hg _
theorem zis{Q:Prop}(w:World)(g:Nat)(h:w.heap[g]?=some (.cells #[.int .u8 0,.int .i64 0,.string ⟨#[]⟩,.slice none 0 0] 30))(k:w.cell? ⟨g,0,none⟩=some (.int .u8 0)→w.cell? ⟨g,1,none⟩=some (.int .i64 0)→w.cell? ⟨g,2,none⟩=some (.string ⟨#[]⟩)→w.cell? ⟨g,3,none⟩=some (.slice none 0 0)→(∀j,w.frozen? ⟨g,j,none⟩=false)→Q):Q:=by obtain⟨a,b,c,d⟩:=cells4 h;exact k a b c d (unfrozen h)
structure Elem (α:Type) where
 size:Nat
 C:(Nat→Prop)→World→(Nat→Value)→α→Prop
 stays:∀ {A A':Nat→Prop} {w w':World},Stays A A' w w'→∀ {c:Nat→Value} {x:α},C A w c x→C A' w' c x
 congr:∀ {A:Nat→Prop} {w:World} {c d:Nat→Value} {x:α},C A w c x→(∀ i,i < size→d i=c i)→C A w d x
 one:∀ {A:Nat→Prop} {w:World} {c:Nat→Value} {x:α},C A w c x→∀ i,i < size→(c i).oneCell'=true
variable {α:Type} [Inhabited α]
def RowsAt(E:Elem α)(A:Nat→Prop)(w:World)(v:Value)(l:List α):Prop:=∃cs,RowAt A w E.size v l.length cs∧∀j,j<l.length→E.C A w (cs j) (at' l j)
theorem RowsAt.stays{E:Elem α}{A':Nat→Prop}(hs:Stays A A' w w'){l:List α}(h:RowsAt E A w v l):RowsAt E A' w' v l:=by obtain⟨cs,h1,h2⟩:=h;exact⟨cs,h1.stays hs,fun j hj=>E.stays hs (h2 j hj)⟩
theorem RowsAt.form{E:Elem α}{l:List α}(h:RowsAt E A w v l):l.length≤maxLen∧∃a c,v=.slice a l.length c:=by obtain⟨cs,h,_⟩:=h;exact⟨h.1,h.form⟩
theorem RowsAt.nil(E:Elem α)(A:Nat→Prop)(w:World):RowsAt E A w (.slice none 0 0) []:=⟨fun _ _=>undef,RowAt.empty _ _ _,fun j hj=>by simp at hj⟩
theorem RowsAt.at{E:Elem α}{l:List α}(h:RowsAt E A w v l)(hj:j<l.length):∃b off cap cs,v=.slice (some ⟨b,off,none⟩) l.length cap∧b<w.heap.size∧l.length≤cap∧A b∧(∀i,i<E.size→w.cell? ⟨b,off+j*E.size+i,none⟩=some (cs i))∧E.C A w cs (at' l j):=by obtain⟨cs,h,hf⟩:=h;obtain⟨b,off,cap,rfl,h1,h2,h3,h4⟩:=h.at hj;exact⟨b,off,cap,cs j,rfl,h1,h2,h3,h4,hf j hj⟩
def RowsOwn(E:Elem α)(e:Nat)(D:Nat→Prop)(base:Nat)(w:World)(v:Value)(l:List α):Prop:=∃xs,w.ownsRow base e E.size v l.length xs∧∀j,j<l.length→E.C (fun k=>D k∧v.ownBlock≠some k) w (fun i=>vat xs (j*E.size+i)) (at' l j)
theorem RowsOwn.nil(E:Elem α)(e:Nat)(D:Nat→Prop)(base:Nat)(w:World):RowsOwn E e D base w (.slice none 0 0) []:=⟨[],World.ownsRow_nil _ _ _ _,fun j hj=>by simp at hj⟩
theorem RowsOwn.form{E:Elem α}{l:List α}(h:RowsOwn E e D base w v l):∃a c,v=.slice a l.length c:=by obtain⟨xs,h,_⟩:=h;exact zas h
theorem RowsOwn.lt{E:Elem α}{l:List α}(h:RowsOwn E e D base w v l)(he:v.ownBlock=some k):base≤k∧k<w.heap.size:=by obtain⟨xs,h,_⟩:=h;exact h.lt k he
theorem RowsOwn.below{E:Elem α}{l:List α}(h:RowsOwn E e D base w v l)(hb:Below w.heap.size w w'):RowsOwn E e D base w' v l:=by obtain⟨xs,h1,h2⟩:=h;exact⟨xs,zaU h1 hb,fun j hj=>E.stays (Stays.of_below hb) (h2 j hj)⟩
theorem RowsOwn.keeps{E:Elem α}{l:List α}{S:Nat→Prop}(h:RowsOwn E e D base w v l)(hk:Keeps w w' S)(h1:∀k,v.ownBlock=some k→¬S k)(h2:∀k,k<w.heap.size→D k→¬S k):RowsOwn E e D base w' v l:=by obtain⟨xs,hx,hf⟩:=h;exact⟨xs,zau hx hk h1,fun j hj=>E.stays (hk.stays fun k a hlt=>h2 k hlt a.1) (hf j hj)⟩
theorem RowsOwn.shut {E:Elem α} {e:Nat} {D:Nat→Prop} {base:Nat} {w:World} {v:Value} {l:List α} {A:Nat→Prop} (h:RowsOwn E e D base w v l) (hA:∀ k,D k→A k) (hv:∀ k,v.ownBlock=some k→A k) (hl:l.length≤maxLen):RowsAt E A w v l:=by
 obtain ⟨xs,hx,hf⟩:=h
 have hs:Stays (fun k=>D k∧v.ownBlock≠some k) A w w:=⟨Nat.le_refl _,fun b hb a=>⟨rfl,hA b a.1⟩⟩
 refine ⟨fun j i=>vat xs (j * E.size+i),⟨hl,?_⟩,fun j hj=>E.stays hs (hf j hj)⟩
 obtain ⟨h0,⟨rfl,h1⟩|⟨g,cap,cur,rfl,hg,hh,hn,hm,hc,ht⟩⟩:=hx
 · exact ⟨none,0,by rw [h1],by omega,fun _=>rfl,fun h=>by omega⟩
 · have hgl:g < w.heap.size:=by rw [Array.getElem?_eq_some_iff] at hh;exact hh.1
   refine ⟨_,cap,rfl,hn,nofun,fun hp=>⟨g,0,rfl,hgl,hv g rfl,fun j hj i hi=>?_⟩⟩
   have hlt:j * E.size+i < l.length * E.size:=by
    calc j * E.size+i < j * E.size+E.size:=by omega
     _=(j+1) * E.size:=by rw [Nat.add_mul,Nat.one_mul]
     _≤l.length * E.size:=Nat.mul_le_mul_right _ hj
   rw [Nat.zero_add]
   simp only [World.cell?,hh,vat,List.getD_eq_getElem?_getD]
   have hx2:xs[j * E.size+i]?=cur[j * E.size+i]?:=by rw [← ht,List.getElem?_take,if_pos (by omega)];simp
   rw [← hx2,List.getElem?_eq_getElem (by omega)];rfl
theorem RowsAt.src {E:Elem α} (hsz:0 < E.size) {A:Nat→Prop} {w:World} {u:Value} {m:List α} (h:RowsAt E A w u m):
 ∃ news:List Value,news.length=m.length * E.size∧(u=.slice none 0 0∧m.length=0∧news=[]∨∃ ad c,u=.slice (some ad) m.length c∧∀ j x,news[j]?=some x→w.cell? (ad.add j)=some x)∧(∀ x ∈ news,x.oneCell'=true)∧∀ j,j < m.length→E.C A w (fun i=>vat news (j * E.size+i)) (at' m j):=by
 obtain ⟨cs,⟨h0,a,cap,rfl,h1,h2,h3⟩,hf⟩:=h
 have hdiv:∀ j,j < m.length * E.size→j / E.size < m.length∧j % E.size < E.size:=fun j hj=>⟨(Nat.div_lt_iff_lt_mul hsz).2 hj,Nat.mod_lt _ hsz⟩
 refine ⟨(List.range (m.length * E.size)).map (fun j=>cs (j / E.size) (j % E.size)),by simp,?_,?_,?_⟩
 · cases a with
   | none=>
     have hc:=h2 rfl
     have hm:m.length=0:=by omega
     exact .inl ⟨by rw [hc,hm],hm,by simp [hm]⟩
   | some ad=>
     refine .inr ⟨ad,cap,rfl,fun j x hj=>?_⟩
     have hjl:j < m.length * E.size:=by
      rcases Nat.lt_or_ge j (m.length * E.size) with h|h
      · exact h
      · rw [List.getElem?_eq_none (by simpa using h)] at hj;simp at hj
     have hd:=hdiv j hjl
     obtain ⟨b,off,he,hb,hA,hc⟩:=h3 (Nat.lt_of_le_of_lt (Nat.zero_le _) hd.1)
     simp only [Option.some.injEq] at he
     subst he
     rw [List.getElem?_map,List.getElem?_range hjl] at hj
     simp only [Option.map_some,Option.some.injEq] at hj
     subst hj
     have e0:(⟨b,off,none⟩:Addr).add j=⟨b,off+j,none⟩:=by
      simp only [Addr.add];split
      · subst_vars;rfl
      · rfl
     have e1:off+j / E.size * E.size+j % E.size=off+j:=by
      rw [Nat.add_assoc,Nat.mul_comm,Nat.div_add_mod]
     rw [e0,← hc (j / E.size) hd.1 (j % E.size) hd.2,e1]
 · intro x hx
   simp only [List.mem_map,List.mem_range] at hx
   obtain ⟨j,hj,rfl⟩:=hx
   exact E.one (hf _ (hdiv j hj).1) _ (hdiv j hj).2
 · intro j hj
   refine E.congr (hf j hj) fun i hi=>?_
   have hlt:j * E.size+i < m.length * E.size:=by
    calc j * E.size+i < j * E.size+E.size:=by omega
     _=(j+1) * E.size:=by rw [Nat.add_mul,Nat.one_mul]
     _≤m.length * E.size:=Nat.mul_le_mul_right _ hj
   simp only [vat,List.getD_eq_getElem?_getD]
   rw [List.getElem?_map,List.getElem?_range hlt]
   have a1:(j * E.size+i) / E.size=j:=by rw [Nat.mul_comm,Nat.mul_add_div hsz,Nat.div_eq_of_lt hi,Nat.add_zero]
   have a2:(j * E.size+i) % E.size=i:=by rw [Nat.mul_comm,Nat.mul_add_mod,Nat.mod_eq_of_lt hi]
   simp [a1,a2]
theorem zaT {E:Elem α} {t e bytes:Nat} {z:Value} (R:RowT Tryz.prog t e z E.size bytes) (hzs:z.cells.size=E.size) (hsz:0 < E.size) {ops:Array Oper} {rest:List Oper} {o:Oper} {a:Act} {Q:Exit→Act→World→Prop} (hgd:o.guard=none) (s x:Operand) (ho:o.op=.call { callee:=.builtin .append,args:=#[s,x],argTypes:=#[t,t] })
 {base:Nat} {w:World} {v u:Value} {l m:List α} {D D':Nat→Prop} (hs:a.eval s=v) (hx:a.eval x=u) (hown:RowsOwn E e D base w v l) (hu:RowsAt E D' w u m) (hD:∀ b,b < w.heap.size→D' b→D b∧v.ownBlock≠some b)
 (hl:l.length+m.length≤maxLen) (hby:(l.length+m.length) * bytes≤140737488355328) (hbase:base≤w.heap.size)
 (h:∀ a' c' w1,RowsOwn E e D base w1 (.slice a' (l.length+m.length) c') (l ++ m)→w.grownBy w1 v.ownBlock→NewOr w v (.slice a' (l.length+m.length) c')→wpList Tryz.prog ops Q rest (a.put o.dst (.slice a' (l.length+m.length) c')) w1):
 wpList Tryz.prog ops Q (o :: rest) a w:=by
 obtain ⟨xs,hrow,hf⟩:=hown
 obtain ⟨news,n1,n2,n3,n4⟩:=hu.src hsz
 refine zbp R hzs hsz hgd s x ho hs hx hrow n2 n1 n3 hl hby hbase ?_
 intro v' w1 h1 h2 h3
 obtain ⟨a',c',rfl⟩:=zas h1
 refine h a' c' w1 ⟨xs ++ news,by rw [List.length_append];exact h1,fun j hj=>?_⟩ h2 h3
 have key:∀ b,b < w.heap.size→v.ownBlock≠some b→w1.heap[b]?=w.heap[b]?∧(Value.slice a' (l.length+m.length) c').ownBlock≠some b:=fun b hb hne=>by
  refine ⟨h2.block b hb (fun e=>hne e.symm),fun e=>?_⟩
  rcases h3 b e with e|e
  · exact hne e
  · omega
 have hst1:Stays (fun k=>D k∧v.ownBlock≠some k) (fun k=>D k∧(Value.slice a' (l.length+m.length) c').ownBlock≠some k) w w1:=⟨h2.size,fun b hb hne=>⟨(key b hb hne.2).1,hne.1,(key b hb hne.2).2⟩⟩
 have hst2:Stays D' (fun k=>D k∧(Value.slice a' (l.length+m.length) c').ownBlock≠some k) w w1:=⟨h2.size,fun b hb hd=>⟨(key b hb (hD b hb hd).2).1,(hD b hb hd).1,(key b hb (hD b hb hd).2).2⟩⟩
 have hxl:=hrow.1
 have hmul:∀ p q i,p < q→i < E.size→p * E.size+i < q * E.size:=fun p q i hp hi=>by
  calc p * E.size+i < p * E.size+E.size:=by omega
   _=(p+1) * E.size:=by rw [Nat.add_mul,Nat.one_mul]
   _≤q * E.size:=Nat.mul_le_mul_right _ hp
 by_cases hjl:j < l.length
 · rw [zbA hjl]
   refine E.congr (E.stays hst1 (hf j hjl)) fun i hi=>?_
   simp only [vat,List.getD_eq_getElem?_getD]
   rw [List.getElem?_append_left (by rw [hxl];exact hmul _ _ _ hjl hi)]
 · have hjm:j - l.length < m.length:=by rw [List.length_append] at hj;omega
   rw [zbz (by omega)]
   refine E.congr (E.stays hst2 (n4 _ hjm)) fun i hi=>?_
   simp only [vat,List.getD_eq_getElem?_getD]
   have e1:l.length * E.size≤j * E.size:=Nat.mul_le_mul_right _ (by omega)
   rw [List.getElem?_append_right (by omega),show j * E.size+i - xs.length=(j - l.length) * E.size+i by rw [hxl,Nat.sub_mul];omega]
theorem zbN{E:Elem α}{x:α}(h:w.heap[g]?=some (.cells cs e (0,0)))(hA:A g)(hs:cs.size=E.size)(hc:E.C A w (fun i=>cs.getD i undef) x):RowsAt E A w (.slice (some ⟨g,0,none⟩) 1 1) [x]:=by
 have hgl:g<w.heap.size:=by rw[Array.getElem?_eq_some_iff]at h;exact h.1
 refine⟨fun j i=>cs.getD i undef,⟨by unfold maxLen;simp,_,_,rfl,Nat.le_refl _,nofun,fun _=>⟨g,0,rfl,hgl,hA,fun j hj i hi=>?_⟩⟩,fun j hj=>?_⟩;·(obtain rfl:j=0:=by simp at hj;exact hj);simp only[World.cell?,h,Nat.zero_mul,Nat.zero_add];rw[Array.getElem?_eq_getElem (by omega),Array.getD_eq_getD_getElem?,Array.getElem?_eq_getElem (by omega)];rfl
 ·(obtain rfl:j=0:=by simp at hj;exact hj);exact hc
def StrE:Elem ByteArray where
 size:=1
 C:=fun _ _ c x=>c 0=.string x∧x.size≤maxLen
 stays:=fun _ _ _ h=>h
 congr:=fun h e=>⟨(e 0 (by omega)).trans h.1,h.2⟩
 one:=fun h i hi=>by obtain rfl:i=0:=by omega
                     rw [h.1];rfl
theorem zjR{l:List ByteArray}:StrsAt A w v l↔RowsAt StrE A w v l:=Iff.rfl
def NdE:Elem Nd where
 size:=4
 C:=NdC
 stays:=fun hs _ _ h=>h.stays hs
 congr:=fun h e=>h.congr e
 one:=fun h i hi=>by
  obtain ⟨_,ka,kc,e3⟩:=h.c3.form
  match i,hi with
  | 0,_=>rw [h.c0];rfl
  | 1,_=>rw [h.c1];rfl
  | 2,_=>rw [h.c2];rfl
  | 3,_=>rw [e3];rfl
theorem zaE:KidsAt A w v l↔RowsAt NdE A w v l:=by
 constructor;·intro h;cases h with|mk _ _ cs h hf hk=>exact⟨cs,h,fun j hj=>by obtain⟨e0,e1,e2,e3⟩:=hf j hj;exact⟨e0,e1,e2,hk j hj,e3⟩⟩
 ·rintro⟨cs,h,hf⟩;exact .mk v l cs h (fun j hj=>⟨(hf j hj).c0,(hf j hj).c1,(hf j hj).c2,(hf j hj).ok⟩) (fun j hj=>(hf j hj).c3)
variable {α:Type} [Inhabited α]
theorem zaS {E:Elem α} {t e bytes:Nat} {z:Value} (R:RowT Tryz.prog t e z E.size bytes) (hzs:z.cells.size=E.size) (hsz:0 < E.size) {ops:Array Oper} {o:Oper} {a:Act} {K:Act→World→Prop} {Q:Exit→Act→World→Prop} {E':Prop} (hgd:o.guard=none) (s x:Operand) (ho:o.op=.call { callee:=.builtin .append,args:=#[s,x],argTypes:=#[t,t] })
 {base:Nat} {w:World} {v u:Value} {l m:List α} {D D':Nat→Prop} (hs:a.eval s=v) (hx:a.eval x=u) (hown:RowsOwn E e D base w v l) (hu:RowsAt E D' w u m) (hD:∀ b,b < w.heap.size→D' b→D b∧v.ownBlock≠some b)
 (hl:l.length+m.length≤maxLen) (hby:(l.length+m.length) * bytes≤140737488355328) (hbase:base≤w.heap.size)
 (h:∀ a' c' w1,RowsOwn E e D base w1 (.slice a' (l.length+m.length) c') (l ++ m)→w.grownBy w1 v.ownBlock→NewOr w v (.slice a' (l.length+m.length) c')→K (a.put o.dst (.slice a' (l.length+m.length) c')) w1):
 if Region.wanted o (yielded ops a.tmps)=true then Oper.wp Tryz.prog o a w K Q else E':=by
 obtain ⟨xs,hrow,hf⟩:=hown
 obtain ⟨news,n1,n2,n3,n4⟩:=hu.src hsz
 refine zbX R hzs hsz hgd s x ho hs hx hrow n2 n1 n3 hl hby hbase ?_
 intro v' w1 h1 h2 h3
 obtain ⟨a',c',rfl⟩:=zas h1
 refine h a' c' w1 ⟨xs ++ news,by rw [List.length_append];exact h1,fun j hj=>?_⟩ h2 h3
 have key:∀ b,b < w.heap.size→v.ownBlock≠some b→w1.heap[b]?=w.heap[b]?∧(Value.slice a' (l.length+m.length) c').ownBlock≠some b:=fun b hb hne=>by
  refine ⟨h2.block b hb (fun e=>hne e.symm),fun e=>?_⟩
  rcases h3 b e with e|e
  · exact hne e
  · omega
 have hst1:Stays (fun k=>D k∧v.ownBlock≠some k) (fun k=>D k∧(Value.slice a' (l.length+m.length) c').ownBlock≠some k) w w1:=⟨h2.size,fun b hb hne=>⟨(key b hb hne.2).1,hne.1,(key b hb hne.2).2⟩⟩
 have hst2:Stays D' (fun k=>D k∧(Value.slice a' (l.length+m.length) c').ownBlock≠some k) w w1:=⟨h2.size,fun b hb hd=>⟨(key b hb (hD b hb hd).2).1,(hD b hb hd).1,(key b hb (hD b hb hd).2).2⟩⟩
 have hxl:=hrow.1
 have hmul:∀ p q i,p < q→i < E.size→p * E.size+i < q * E.size:=fun p q i hp hi=>by
  calc p * E.size+i < p * E.size+E.size:=by omega
   _=(p+1) * E.size:=by rw [Nat.add_mul,Nat.one_mul]
   _≤q * E.size:=Nat.mul_le_mul_right _ hp
 by_cases hjl:j < l.length
 · rw [zbA hjl]
   refine E.congr (E.stays hst1 (hf j hjl)) fun i hi=>?_
   simp only [vat,List.getD_eq_getElem?_getD]
   rw [List.getElem?_append_left (by rw [hxl];exact hmul _ _ _ hjl hi)]
 · have hjm:j - l.length < m.length:=by rw [List.length_append] at hj;omega
   rw [zbz (by omega)]
   refine E.congr (E.stays hst2 (n4 _ hjm)) fun i hi=>?_
   simp only [vat,List.getD_eq_getElem?_getD]
   have e1:l.length * E.size≤j * E.size:=Nat.mul_le_mul_right _ (by omega)
   rw [List.getElem?_append_right (by omega),show j * E.size+i - xs.length=(j - l.length) * E.size+i by rw [hxl,Nat.sub_mul];omega]
end Go.Proofs.YtnjfnellghhkaaaGreatDoor
