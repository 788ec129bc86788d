/- Contracts and plain lemmas (InS, InT, InU, InV, InW, InX, InY, InZ): no statement of the seat is proved here. -/
import Derived.Test.YtnjfnellghhkaaaGreatDoorYe2
import Derived.Test.YtnjfnellghhkaaaGreatDoorYe1
import Derived.BigRegion
import Derived.Deep.DeepCutAuto
set_option linter.unusedSimpArgs false
set_option linter.unusedVariables false
set_option linter.unusedSectionVars false
set_option maxRecDepth 100000
set_option maxHeartbeats 3200000
namespace Go.Proofs.YtnjfnellghhkaaaGreatDoor
open Go.RowKit
variable {C:IC}{F0:List RF}{args:List ByteArray}{b:Nat}{bk:Bool}{c:Nat}{cs:List Nat}{cs':List Nat}{i:Nat}{items:List Int}{k:Nat}{kv:Value}{l':Int}{n0:Nat}{off:Nat}{ps:List Dcl}{rf:RF}{t:ByteArray}{u':Value}{v':Value}{vs:List Dcl}{w:World}{w':World}{w2:World}{σ:Sto}{σ':Sto}{τ:Tags}{τ0:Tags}{τ2:Tags}
theorem SBase.put3{τ':Tags}(h:SBase C τ w kv F0 rf)(ha:FAt C kv F0 b off){S:Nat→Prop}(hv:v'.oneCell'=true)(hu:u'.oneCell'=true)(hb:w'.heap[b]?=(((w.setCell ⟨b,off,none⟩ v').setCell ⟨b,off+1,none⟩ u').setCell ⟨b,off+2,none⟩ (.int .i64 l')).heap[b]?)(hk:Keeps w w' S)(hS:∀k,S k→k≠b→¬(τ k=.store∨τ k=.calls))(t1:∀k,k<w.heap.size→τ k=.store∨τ k=.calls→τ' k=τ k)(t2:∀k,w'.heap.size≤k→τ' k=.oth):SBase C τ' w' kv F0 ⟨v',u',l'⟩:=by
 have h1:=h.setF ha (i:=0) (x:=v') (rf':=⟨v',rf.c,rf.l⟩) (.inl ⟨rfl,rfl,hv⟩);have h2:=h1.setF ha (i:=1) (x:=u') (rf':=⟨v',u',rf.l⟩) (.inr (.inl ⟨rfl,rfl,hu⟩));have h3:=h2.setF ha (i:=2) (x:=.int .i64 l') (rf':=⟨v',u',l'⟩) (.inr (.inr ⟨rfl,l',rfl,rfl⟩));have k1:=zaf w b (off+0) v';have k2:=zaf (w.setCell ⟨b,off+0,none⟩ v') b (off+1) u';have k3:=zaf ((w.setCell ⟨b,off+0,none⟩ v').setCell ⟨b,off+1,none⟩ u') b (off+2) (.int .i64 l');have hsz:(((w.setCell ⟨b,off+0,none⟩ v').setCell ⟨b,off+1,none⟩ u').setCell ⟨b,off+2,none⟩ (.int .i64 l')).heap.size=w.heap.size:=by simp[World.setCell]
 refine h3.keeps (S:=fun k=>¬(τ k=.store∨τ k=.calls)) ⟨hk.os,hk.tape,hk.output,by rw[hsz];exact hk.size,fun k hlt hn=>?_⟩ (fun k e hn=>hn e) (fun k hlt e=>t1 k (by rw[hsz]at hlt;exact hlt) e) t2;have hn':τ k=.store∨τ k=.calls:=Classical.byContradiction hn;rw[hsz]at hlt;by_cases e:k=b;·subst e;exact hb
 ·have e1:w'.heap[k]?=w.heap[k]?:=hk.block k hlt (fun s=>hS k s e hn');rw[e1];exact(((k1.same k2).same k3).block k hlt e).symm
def openT(τ:Tags)(v' u' iv:Value)(c:Nat):Tags:=fun k=>if v'.ownBlock=some k then .vars else if u'.ownBlock=some k then .crow else if k=c then .cell else if iv.ownBlock=some k then .items c else τ k
theorem zbl{α:Type} [Inhabited α]{l:List α}{x:α}(hi:i<l.length+1):at' (l++[x]) i=if i<l.length then at' l i else x:=by
 by_cases h:i<l.length;·rw[if_pos h];simp only[at',List.getD_eq_getElem?_getD,List.getElem?_append_left h]
 ·rw[if_neg h];(obtain rfl:i=l.length:=by omega);simp[at',List.getD_eq_getElem?_getD]
theorem zhV(hn:(vs.map Dcl.name).Nodup){d:Dcl}(h:∀e∈vs,e.name≠d.name):((vs++[d]).map Dcl.name).Nodup:=by rw[List.map_append,List.map_singleton];refine List.nodup_append.2 ⟨hn,by simp,fun a ha b hb e=>?_⟩;rw[List.mem_singleton.1 hb]at e;obtain⟨x,hx,rfl⟩:=List.mem_map.1 ha;exact h x hx e
theorem zfe(h:visD vs t=none):∀e∈vs,e.name≠t:=by have hf:=zef h;clear h;induction vs with|nil=>intro e he;simp at he|cons d l ih=>rw[findD]at hf;cases hg:findD l t with|some x=>rw[hg]at hf;cases hf|none=>rw[hg]at hf;simp only at hf;split at hf;(·cases hf);·rename_i hd;intro e he;rcases List.mem_cons.1 he with rfl|he;(·exact hd);·exact ih hg e he
theorem zmw(h:visD vs t=none):ixD vs t=-1:=zeR (zfe h)
theorem SSt.opened(h:SSt C τ w kv F0 rf vs cs σ)(ha:FAt C kv F0 b off)(ht:visD vs t=none){iv:Value}(r1:RowsOwn DclE 54 NoD 0 w' v' (vs++[dclN t bk]))(r2:RowsOwn PtrE 214 NoD 0 w' u' (cs++[c]))(hb:w'.heap[b]?=(((w.setCell ⟨b,off,none⟩ v').setCell ⟨b,off+1,none⟩ u').setCell ⟨b,off+2,none⟩ (.int .i64 l')).heap[b]?)(hk:Keeps w w' (fun k=>k=b∨rf.v.ownBlock=some k∨rf.c.ownBlock=some k))(n1:NewOr w rf.v v')(n2:NewOr w rf.c u')(n3:∀k,v'.ownBlock=some k→u'.ownBlock≠some k)(hc:w'.heap[c]?=some (.cells #[iv] 216 (0,0)))(hcn:w.heap.size≤c)(hio:Own w' 0 3 iv items)(hin:∀k,iv.ownBlock=some k→w.heap.size≤k∧k≠c)(hvc:∀k,v'.ownBlock=some k→k≠c∧iv.ownBlock≠some k)(huc:∀k,u'.ownBlock=some k→k≠c∧iv.ownBlock≠some k)(hone:bk=false→items.length=1)(hle:items.length≤1000):SSt C (openT τ v' u' iv c) w' kv F0 ⟨v',u',l'⟩ (vs++[dclN t bk]) (cs++[c]) (σ.put t items)∧SUpd τ w (openT τ v' u' iv c) w':=by
 have hbt:=(h.base.cells ha).2.2.2.2.2;have hlt:∀k,τ k≠.oth→k<w.heap.size:=fun k e=>h.tlt e;have hclt:c<w'.heap.size:=by rw[Array.getElem?_eq_some_iff]at hc;exact hc.1
 have hold:∀k,k<w.heap.size→openT τ v' u' iv c k=τ k:=fun k hk2=>by unfold openT;split;(·rename_i e;rcases n1 k e with e|e;(·exact(h.fr.vt k e).symm);·omega);·split;(·rename_i e;rcases n2 k e with e|e;(·exact(h.fr.ct k e).symm);·omega);·rw[if_neg (by omega),if_neg (fun e=>by have:=(hin k e).1;omega)]
 have hfr:∀k,w'.heap.size≤k→openT τ v' u' iv c k=.oth:=fun k hk2=>by unfold openT;rw[if_neg (fun e=>by have:=(r1.lt e).2;omega),if_neg (fun e=>by have:=(r2.lt e).2;omega),if_neg (by omega),if_neg (fun e=>by have:=hio.lt e;omega)];exact h.base.fresh k (Nat.le_trans hk.size hk2)
 have hS:∀k,(k=b∨rf.v.ownBlock=some k∨rf.c.ownBlock=some k)→Sish (τ k):=fun k e=>by rcases e with rfl|e|e;(·rcases hbt with e2|e2<;>(rw[e2];trivial));(·rw[h.fr.vt k e];trivial);·rw[h.fr.ct k e];trivial
 obtain⟨_,_,ev⟩:=r1.form;obtain⟨_,_,eu⟩:=r2.form;refine⟨⟨h.base.put3 ha (by rw[ev];rfl) (by rw[eu];rfl) hb hk (fun k e hne e2=>?_) (fun k hk2 _=>hold k hk2) hfr,?_⟩,⟨hk.mono hS,fun k hk2 _=>hold k hk2⟩⟩;·rcases e with e|e|e;(·exact hne e);(·rw[h.fr.vt k e]at e2;simp at e2);·rw[h.fr.ct k e]at e2;simp at e2
 ·have hlen:=h.fr.len;refine⟨r1,fun k e=>by simp[openT,e],r2,fun k e=>?_,by simp[hlen],zhV h.fr.nd (zfe ht),?_,fun j hj=>?_,fun j hj=>?_⟩;(·unfold openT;rw[if_neg (fun e2=>n3 k e2 e),if_pos e]);(·refine List.nodup_append.2 ⟨h.fr.csn,by simp,fun a ha2 b2 hb2 e=>?_⟩;rw[List.mem_singleton.1 hb2]at e;obtain⟨j,hj,rfl⟩:=List.mem_iff_getElem.1 ha2;have:=(h.fr.cell j (by omega)).lt;rw[zam hj]at this;omega);(·rw[List.length_append,List.length_singleton]at hj;rw[zbl hj];split;(·rename_i hjl;exact h.fr.kd j hjl);·cases bk<;>simp[dclN]);·rw[List.length_append,List.length_singleton]at hj;rw[zbl hj,zbl (l:=cs) (x:=c) (by omega),hlen];by_cases hjl:j<vs.length;(·rw[if_pos hjl,if_pos hjl];have hne:(at' vs j).name≠t:=zfe ht _ (zaz hjl);have hcj:=h.fr.cell j hjl;(have:(σ.put t items) (at' vs j).name=σ (at' vs j).name:=by simp[Sto.put,hne]);rw[this];refine hcj.keeps hk (fun e=>?_) (fun k e e2=>?_) (hold _ hcj.lt) (fun k hk2 e=>by rw[hold k hk2];exact e);(·rcases e with e|e|e;(·rw[←e]at hbt;rw[hcj.tg]at hbt;simp at hbt);(·have:=h.fr.vt _ e;rw[hcj.tg]at this;cases this);·have:=h.fr.ct _ e;rw[hcj.tg]at this;cases this);·rcases e2 with rfl|e2|e2;(·rw[e]at hbt;simp at hbt);(·rw[h.fr.vt k e2]at e;cases e);·rw[h.fr.ct k e2]at e;cases e);·rw[if_neg hjl,if_neg hjl];(have:(σ.put t items) (dclN t bk).name=items:=by simp[Sto.put,dclN]);rw[this];refine⟨⟨iv,hc,hio,fun k e=>?_⟩,?_,fun e=>hone (by cases bk<;>simp_all[dclN]),hle⟩;(·unfold openT;rw[if_neg (fun e2=>(hvc k e2).2 e),if_neg (fun e2=>(huc k e2).2 e),if_neg (hin k e).2,if_pos e]);·unfold openT;rw[if_neg (fun e2=>(hvc c e2).1 rfl),if_neg (fun e2=>(huc c e2).1 rfl),if_pos rfl]
theorem zcc(h:w'.heap[b]?=w.heap[b]?)(i:Nat):w'.cell? ⟨b,i,none⟩=w.cell? ⟨b,i,none⟩:=by simp only[World.cell?,h]
theorem zbG(h:w'.heap[b]?=w.heap[b]?)(i:Nat):w'.frozen? ⟨b,i,none⟩=w.frozen? ⟨b,i,none⟩:=by simp only[World.frozen?,h]
theorem zgG{W:World}(h:SSt C τ w kv F0 rf vs cs σ)(ha:FAt C kv F0 b off)(ht:visD vs t=none){iv:Value}(hbW:Below w.heap.size w W)(hP:AddP W b off rf.v rf.c vs cs (dclN t bk) c w2)(hc:W.heap[c]?=some (.cells #[iv] 216 (0,0)))(hcn:w.heap.size≤c)(hio:Own W 0 3 iv items)(hin:∀k,iv.ownBlock=some k→w.heap.size≤k∧k≠c)(hone:bk=false→items.length=1)(hle:items.length≤1000)(l':Int):(w2.cell? ⟨b,off+2,none⟩=some (.int .i64 rf.l)∧w2.frozen? ⟨b,off+2,none⟩=false)∧∃τ' rf',rf'.l=l'∧SSt C τ' (w2.setCell ⟨b,off+2,none⟩ (.int .i64 l')) kv F0 rf' (vs++[dclN t bk]) (cs++[c]) (σ.put t items)∧SUpd τ w τ' (w2.setCell ⟨b,off+2,none⟩ (.int .i64 l')):=by
 obtain⟨v',u',r1,r2,hb,hk,n1,n2,n3⟩:=hP;obtain⟨p0,p1,p2,pf,hbl,hbt⟩:=h.base.cells ha;have hbb:=hbW.block b hbl;have hclt:c<W.heap.size:=by rw[Array.getElem?_eq_some_iff]at hc;exact hc.1
 have nv:rf.v.ownBlock≠some b:=fun e=>by rw[h.fr.vt b e]at hbt;simp at hbt
 have nu:rf.c.ownBlock≠some b:=fun e=>by rw[h.fr.ct b e]at hbt;simp at hbt
 have vlt:∀k,rf.v.ownBlock=some k→k<w.heap.size:=fun k e=>(h.fr.vr.lt e).2;have ult:∀k,rf.c.ownBlock=some k→k<w.heap.size:=fun k e=>(h.fr.cr.lt e).2;have hbW2:b<W.heap.size:=Nat.lt_of_lt_of_le hbl hbW.size;have nvb:v'.ownBlock≠some b:=fun e=>by rcases n1 b e with e|e;(·exact nv e);·omega
 have nub:u'.ownBlock≠some b:=fun e=>by rcases n2 b e with e|e;(·exact nu e);·omega
 have hcell:((W.setCell ⟨b,off,none⟩ v').setCell ⟨b,off+1,none⟩ u').cell? ⟨b,off+2,none⟩=W.cell? ⟨b,off+2,none⟩:=by rw[World.cell?_setCell_other _ _ _ _ (by simp),World.cell?_setCell_other _ _ _ _ (by simp)]
 have hK:=zaf w2 b (off+2) (.int .i64 l');refine⟨⟨(zcc hb (off+2)).trans (hcell.trans ((zcc hbb (off+2)).trans p2)),?_⟩,?_⟩;·rw[zbG hb (off+2),World.frozen?_setCell,World.frozen?_setCell,zbG hbb (off+2)];exact pf _
 ·(have hcW:¬(c=b∨rf.v.ownBlock=some c∨rf.c.ownBlock=some c):=fun e=>by rcases e with e|e|e;(·omega);(·have:=vlt c e;omega);·have:=ult c e;omega);(have hiW:∀k,iv.ownBlock=some k→¬(k=b∨rf.v.ownBlock=some k∨rf.c.ownBlock=some k):=fun k e e2=>by have:=(hin k e).1;rcases e2 with e2|e2|e2;(·omega);(·have:=vlt k e2;omega);·have:=ult k e2;omega);have hkk:Keeps w w2 (fun k=>k=b∨rf.v.ownBlock=some k∨rf.c.ownBlock=some k):=(Keeps.of_below _ hbW).same hk;refine⟨openT τ v' u' iv c,⟨v',u',l'⟩,rfl,h.opened ha ht (w':=w2.setCell ⟨b,off+2,none⟩ (.int .i64 l')) (r1.keeps hK (fun k e e2=>nvb (e2▸e)) (fun k _ a=>a.elim)) (r2.keeps hK (fun k e e2=>nub (e2▸e)) (fun k _ a=>a.elim)) ?_ (hkk.same (hK.mono (fun k e=>.inl e))) ?_ ?_ n3 ?_ hcn ?_ hin ?_ ?_ hone hle⟩;(·refine zap (hb.trans ?_) _ _;exact zap (zap hbb _ _) _ _);(·exact fun k e=>by rcases n1 k e with e|e;(·exact .inl e);·exact .inr (Nat.le_trans hbW.size e));(·exact fun k e=>by rcases n2 k e with e|e;(·exact .inl e);·exact .inr (Nat.le_trans hbW.size e));(·exact(hK.block c (Nat.lt_of_lt_of_le hclt hk.size) (fun e=>hcW (.inl e))).trans ((hk.block c hclt hcW).trans hc));(·exact(hio.keeps hk hiW).keeps hK (fun k e e2=>hiW k e (.inl e2)));(·exact fun k e=>by rcases n1 k e with e|e;(·have:=vlt k e;exact⟨by omega,fun e2=>by have:=(hin k e2).1;omega⟩);·exact⟨by omega,fun e2=>by have:=hio.lt e2;omega⟩);·exact fun k e=>by rcases n2 k e with e|e;(·have:=ult k e;exact⟨by omega,fun e2=>by have:=(hin k e2).1;omega⟩);·exact⟨by omega,fun e2=>by have:=hio.lt e2;omega⟩
def OpenP(C:IC)(τ:Tags)(w:World)(kv:Value)(F0:List RF)(rf:RF)(vs:List Dcl)(cs:List Nat)(σ:Sto)(t:ByteArray)(bk:Bool)(items:List Int)(w':World):Prop:=∃τ' rf' c,rf'.l=rf.l+1∧SSt C τ' w' kv F0 rf' (vs++[dclN t bk]) (cs++[c]) (σ.put t items)∧SUpd τ w τ' w'
theorem open_I(h:SSt C τ w kv F0 rf vs cs σ)(ht:visD vs t=none)(hts:t.size≤maxLen)(x:Int)(hx:In64 x)(hl:vs.length≤100000)(hrl:0≤rf.l∧rf.l≤100000):Calls Tryz.prog 191 #[.pointer (some ⟨C.T,0,none⟩),.agg #[.string t,.int .u8 (dclN t bk).kind,.int .i64 0],.int .i64 x] w fun en w'=>en=.returned (.int .i64 0)∧OpenP C τ w kv F0 rf vs cs σ t bk (if bk then[]else[x]) w':=by
 obtain⟨kb,off,ha,_⟩:=h.base.place;obtain⟨p0,p1,p2,pf,hkb,hbt⟩:=h.base.cells ha;obtain⟨va,vc,hve⟩:=h.fr.vr.form;have HROW:RowsAt DclE (fun _=>True) w rf.v vs:=h.fr.vr.shut (fun k a=>a.elim) (fun _ _=>trivial) h.fr.vr.lenle;have p0':=p0;rw[hve]at HROW p0';have HCU:=Lib.hid (fun w1(hb1:Below w.heap.size w w1)=>current_I (h.base.keeps (τ':=τ) (Keeps.of_below (fun _=>False) hb1) (fun _ _ e=>e) (fun _ _ _=>rfl) (fun k hk=>h.base.fresh k (Nat.le_trans hb1.size hk))) ha);have HFI:=Lib.hid (fun w1(hb1:Below w.heap.size w w1)=>find_I kb off vs t va vc _ w1 (HROW.stays (Stays.of_below hb1)) ((hb1.cell (p:=⟨kb,off,none⟩) hkb).trans p0'));rw[zmw ht]at HFI;have nv:rf.v.ownBlock≠some kb:=fun e=>by rw[h.fr.vt kb e]at hbt;simp at hbt
 have nu:rf.c.ownBlock≠some kb:=fun e=>by rw[h.fr.ct kb e]at hbt;simp at hbt
 have nvu:∀k,rf.v.ownBlock=some k→rf.c.ownBlock≠some k:=fun k e e2=>by have:=h.fr.vt k e;rw[h.fr.ct k e2]at this;cases this
 have HAD:=Lib.hid (fun w1 c(hb1:Below w.heap.size w w1)=>add_I kb off (dclN t bk) c rf.v rf.c vs cs w1 (h.fr.vr.below hb1) (h.fr.cr.below hb1) ((hb1.cell (p:=⟨kb,off,none⟩) hkb).trans p0) ((hb1.cell (p:=⟨kb,off+1,none⟩) hkb).trans p1) (fun i=>(hb1.frozen (p:=⟨kb,i,none⟩) hkb).trans (pf i)) (Nat.lt_of_lt_of_le hkb hb1.size) nv nu nvu hl (by rw[h.fr.len];exact hl) hts);have HFIN:=Lib.hid (fun W w2 iv c items l'=>zgG (W:=W) (w2:=w2) (iv:=iv) (c:=c) (items:=items) (bk:=bk) h ha ht (l':=l'));have hw1:IntKind.i64.wrap (rf.l+1)=rf.l+1:=zei _ (by omega);clear HROW p0 p0' p1 p2 pf hbt ht h nv nu nvu hve;cases bk with|true=>have HW:Hid (Below w.heap.size w ((w.alloc (.cells #[.string t,.int .u8 3,.int .i64 0] 54)).alloc (.cells #[.slice none 0 0] 216))):=Lib.hid (by(repeat(with_reducible first|exact Below.refl _ _|refine zad ?_|refine zaa ?_|(apply zab;focus assumption))));have HCB:=Lib.hid (zan w (.cells #[.string t,.int .u8 3,.int .i64 0] 54) (.cells #[.slice none 0 0] 216));show Calls Tryz.prog 191 #[.pointer (some ⟨C.T,0,none⟩),.agg #[.string t,.int .u8 3,.int .i64 0],.int .i64 x] w _;go_enter Tryz.func191,Tryz.ntmps191;go_wp2_with(first|(go_at_call 216;refine(HCU.out _ (by exact(by(repeat(with_reducible first|exact Below.refl _ _|refine zad ?_|refine zaa ?_|(apply zab;focus assumption)))))).mono ?_;rintro en w3⟨rfl,rfl⟩)|(go_at_call 217;refine(HFI.out _ (by exact(by(repeat(with_reducible first|exact Below.refl _ _|refine zad ?_|refine zaa ?_|(apply zab;focus assumption)))))).mono ?_;rintro en w3⟨rfl,rfl⟩)|(go_at_call 162;refine(HAD.out _ (w.heap.size+1) (by exact(by(repeat(with_reducible first|exact Below.refl _ _|refine zad ?_|refine zaa ?_|(apply zab;focus assumption)))))).mono ?_;rintro en w2⟨rfl,hP⟩;obtain⟨⟨q0,qf⟩,τ',rf',e1,e2,e3⟩:=HFIN.out _ w2 (.slice none 0 0) (w.heap.size+1) [] (rf.l+1) HW.out hP HCB.out (by omega) (Own.nil _ _ _) (fun k e=>by cases e) (fun e=>by cases e) (by simp);have HE2:=Lib.hid e2;have HE3:=Lib.hid e3;have HE1:=Lib.hid e1;clear hP e1 e2 e3));go_ret;exact⟨rfl,τ',rf',_,HE1.out,HE2.out,HE3.out⟩|false=>have HW:Hid (Below w.heap.size w (((w.alloc (.cells #[.string t,.int .u8 1,.int .i64 0] 54)).alloc (.cells #[.slice (some ⟨w.heap.size+1+1,0,none⟩) 1 1] 216)).alloc (.cells #[.int .i64 x] 3))):=Lib.hid (by(repeat(with_reducible first|exact Below.refl _ _|refine zad ?_|refine zaa ?_|(apply zab;focus assumption))));have HCB:=Lib.hid (zlw w (.cells #[.string t,.int .u8 1,.int .i64 0] 54) (.cells #[.slice (some ⟨w.heap.size+1+1,0,none⟩) 1 1] 216) (.cells #[.int .i64 x] 3));have HIN:Hid (∀k,(Value.slice (some ⟨w.heap.size+1+1,0,none⟩) 1 1).ownBlock=some k→w.heap.size≤k∧k≠w.heap.size+1):=Lib.hid (fun k e=>by(have:w.heap.size+1+1=k:=by simpa[Value.ownBlock]using e);omega);have HOW:Hid (Own (((w.alloc (.cells #[.string t,.int .u8 1,.int .i64 0] 54)).alloc (.cells #[.slice (some ⟨w.heap.size+1+1,0,none⟩) 1 1] 216)).alloc (.cells #[.int .i64 x] 3)) 0 3 (.slice (some ⟨w.heap.size+1+1,0,none⟩) 1 1) [x]):=Lib.hid (by have:=zjA ((w.alloc (.cells #[.string t,.int .u8 1,.int .i64 0] 54)).alloc (.cells #[.slice (some ⟨w.heap.size+1+1,0,none⟩) 1 1] 216)) 0 3 [x] (by simp) (fun y hy=>by rw[List.mem_singleton.1 hy];exact hx) (Nat.zero_le _);simpa using this);show Calls Tryz.prog 191 #[.pointer (some ⟨C.T,0,none⟩),.agg #[.string t,.int .u8 1,.int .i64 0],.int .i64 x] w _;go_enter Tryz.func191,Tryz.ntmps191;go_wp2_with(first|(go_at_call 216;refine(HCU.out _ (by exact(by(repeat(with_reducible first|exact Below.refl _ _|refine zad ?_|refine zaa ?_|(apply zab;focus assumption)))))).mono ?_;rintro en w3⟨rfl,rfl⟩)|(go_at_call 217;refine(HFI.out _ (by exact(by(repeat(with_reducible first|exact Below.refl _ _|refine zad ?_|refine zaa ?_|(apply zab;focus assumption)))))).mono ?_;rintro en w3⟨rfl,rfl⟩)|(go_at_call 162;refine(HAD.out _ (w.heap.size+1) (by exact(by(repeat(with_reducible first|exact Below.refl _ _|refine zad ?_|refine zaa ?_|(apply zab;focus assumption)))))).mono ?_;rintro en w2⟨rfl,hP⟩;obtain⟨⟨q0,qf⟩,τ',rf',e1,e2,e3⟩:=HFIN.out _ w2 (.slice (some ⟨w.heap.size+1+1,0,none⟩) 1 1) (w.heap.size+1) [x] (rf.l+1) HW.out hP HCB.out (by omega) HOW.out HIN.out (fun e=>rfl) (by simp);have HE2:=Lib.hid e2;have HE3:=Lib.hid e3;have HE1:=Lib.hid e1;clear hP e1 e2 e3));go_ret;exact⟨rfl,τ',rf',_,HE1.out,HE2.out,HE3.out⟩
theorem zdk(w:World)(b i j:Nat)(x y:Value)(h:i≠j):((w.setCell ⟨b,i,none⟩ x).setCell ⟨b,j,none⟩ y).heap[b]?=((w.setCell ⟨b,j,none⟩ y).setCell ⟨b,i,none⟩ x).heap[b]?:=by simp only[World.setCell,Array.getElem?_modify,if_true];cases w.heap[b]? with|none=>rfl|some o=>cases o with|cells c e f=>simp only[Option.map_some,Option.isSome_none,Bool.false_eq_true,if_false];rw[Array.setIfInBounds_comm _ _ h]|_=>rfl
theorem SSt.closed{d:Dcl}(h:SSt C τ w kv F0 rf (vs++[d]) (cs++[c]) σ)(hl:cs.length=vs.length)(ha:FAt C kv F0 b off){va ua:Option Addr}{vc uc:Nat}(hv:rf.v=.slice va (vs.length+1) vc)(hu:rf.c=.slice ua (vs.length+1) uc)(hb:w'.heap[b]?=(((w.setCell ⟨b,off,none⟩ (.slice va vs.length vc)).setCell ⟨b,off+1,none⟩ (.slice ua vs.length uc)).setCell ⟨b,off+2,none⟩ (.int .i64 l')).heap[b]?)(hk:Keeps w w' (fun k=>k=b)):SSt C τ w' kv F0 ⟨.slice va vs.length vc,.slice ua vs.length uc,l'⟩ vs cs σ∧SUpd τ w τ w':=by
 have hbt:=(h.base.cells ha).2.2.2.2.2;have hv0:(Value.slice va vs.length vc).ownBlock=rf.v.ownBlock:=by rw[hv];cases va<;>rfl
 have hu0:(Value.slice ua vs.length uc).ownBlock=rf.c.ownBlock:=by rw[hu];cases ua<;>rfl
 have r1:=h.fr.vr;have r2:=h.fr.cr;rw[hv]at r1;rw[hu]at r2;have r1:=r1.take (m:=vs.length) (by simp);have r2:=r2.take (m:=vs.length) (by simp[hl]);rw[List.take_left' rfl]at r1;rw[List.take_left' hl]at r2;have nb:∀k,Fish (τ k)→k≠b:=fun k e e2=>by rw[e2]at e;rcases hbt with e3|e3<;>(rw[e3]at e;exact e)
 refine⟨⟨h.base.put3 ha rfl rfl hb hk (fun k e e2=>absurd e e2) (fun _ _ _=>rfl) (fun k hk2=>h.base.fresh k (Nat.le_trans hk.size hk2)),?_⟩,⟨hk.mono (fun k e=>by rw[e];rcases hbt with e3|e3<;>(rw[e3];trivial)),fun _ _ _=>rfl⟩⟩;refine⟨r1.keeps hk (fun k e=>nb k (by rw[hv0]at e;rw[h.fr.vt k e];trivial)) (fun k _ a=>a.elim),fun k e=>h.fr.vt k (by rw[←hv0];exact e),r2.keeps hk (fun k e=>nb k (by rw[hu0]at e;rw[h.fr.ct k e];trivial)) (fun k _ a=>a.elim),fun k e=>h.fr.ct k (by rw[←hu0];exact e),hl,?_,?_,fun j hj=>?_,fun j hj=>?_⟩;·have:=h.fr.nd;rw[List.map_append]at this;exact(List.nodup_append.1 this).1
 ·exact(List.nodup_append.1 h.fr.csn).1
 ·have:=h.fr.kd j (by simp;omega);rwa[zbl (by omega),if_pos hj]at this
 ·have:=h.fr.cell j (by simp;omega);rw[zbl (l:=vs) (x:=d) (by omega),if_pos hj,zbl (l:=cs) (x:=c) (by omega),if_pos (by omega)]at this;exact this.keeps hk (nb _ (by rw[this.tg];trivial)) (fun k e=>nb k (by rw[e];trivial)) rfl (fun _ _ e=>e)
def CloseP(C:IC)(τ:Tags)(w:World)(kv:Value)(F0:List RF)(rf:RF)(vs:List Dcl)(cs:List Nat)(σ:Sto)(w':World):Prop:=∃rf',rf'.l=rf.l-1∧SSt C τ w' kv F0 rf' vs cs σ∧SUpd τ w τ w'
def closeOk(bk:Bool)(l:List Int)(x:Int):Prop:=if bk then l=[]else hd l=x
instance(bk:Bool)(l:List Int)(x:Int):Decidable (closeOk bk l x):=by unfold closeOk;infer_instance
theorem close_I {C:IC} {τ:Tags} {w:World} {kv:Value} {F0:List RF} {rf:RF} {vs:List Dcl} {cs:List Nat} {c:Nat} {σ:Sto} {t:ByteArray} {bk:Bool} (h:SSt C τ w kv F0 rf (vs ++ [dclN t bk]) (cs ++ [c]) σ) (hl:cs.length=vs.length) (x:Int) (hrl:1≤rf.l∧rf.l≤200000) (hok:closeOk bk (σ t) x):
 Calls Tryz.prog 192 #[.pointer (some ⟨C.T,0,none⟩),.string t,.int .i64 x] w fun en w'=>en=.returned (.int .i64 0)∧CloseP C τ w kv F0 rf vs cs σ w':=by
 obtain ⟨kb,off,ha,_⟩:=h.base.place
 obtain ⟨p0,p1,p2,pf,hkb,hbt⟩:=h.base.cells ha
 have hn:vs.length < (vs ++ [dclN t bk]).length:=by simp
 have hn2:vs.length < (cs ++ [c]).length:=by simp [hl]
 obtain ⟨gv,vc,dcs,hv,hvc,_,_,dc,dd⟩:=h.fr.vr.elem (by decide) (j:=vs.length) hn
 obtain ⟨gu,uc,pcs,hu,huc,_,_,pc,pp⟩:=h.fr.cr.elem (by decide) (j:=vs.length) hn2
 have hat:at' (vs ++ [dclN t bk]) vs.length=dclN t bk:=by simp [at',List.getD_eq_getElem?_getD]
 have hac:at' (cs ++ [c]) vs.length=c:=by rw [← hl];simp [at',List.getD_eq_getElem?_getD]
 rw [hat] at dd
 rw [hac] at pp
 have hcell:=h.fr.cell vs.length hn
 rw [hat,hac] at hcell
 have hone:bk=false→(σ t).length=1:=fun e=>hcell.one (by subst e;rfl)
 obtain ⟨iv,i1,i2,i3⟩:=hcell.ex
 obtain ⟨ia,ic,rfl⟩:=i2.form
 have hl1:(vs ++ [dclN t bk]).length=vs.length+1:=by simp
 have hl2:(cs ++ [c]).length=vs.length+1:=by simp [hl]
 rw [hl1] at hv hvc
 rw [hl2] at hu huc
 rw [hv] at p0
 rw [hu] at p1
 have d0:=dc 0 (by decide)
 have d1:=dc 1 (by decide)
 have q0:=pc 0 (by decide)
 rw [dd.1,show vs.length * DclE.size+0=vs.length * 3 from rfl] at d0
 rw [dd.2.1,show vs.length * DclE.size+1=vs.length * 3+1 from rfl] at d1
 rw [show pcs 0=_ from pp,show vs.length * PtrE.size+0=vs.length by show vs.length * 1+0=_;omega] at q0
 have e0:w.cell? ⟨c,0,none⟩=some (.slice ia (σ t).length ic):=zae i1 0 rfl
 have f0:=pf off
 have f1:=pf (off+1)
 have f2:=pf (off+2)
 have hlen:vs.length+1≤maxLen:=by have:=h.fr.vr.lenle;simpa using this
 unfold maxLen at hlen
 have HCU:=Lib.hid (current_I h.base ha)
 have HFIN:=Lib.hid (fun w' l'=>SSt.closed (w':=w') h hl ha hv hu (l':=l'))
 have HW1:Hid (CloseP C τ w kv F0 rf vs cs σ (((w.setCell ⟨kb,off,none⟩ (.slice (some ⟨gv,0,none⟩) vs.length vc)).setCell ⟨kb,off+1,none⟩ (.slice (some ⟨gu,0,none⟩) vs.length uc)).setCell ⟨kb,off+2,none⟩ (.int .i64 (rf.l - 1))).drew):=Lib.hid
  ⟨_,rfl,HFIN.out _ (rf.l - 1) rfl ((((zaf _ kb off _).same (zaf _ kb (off+1) _)).same (zaf _ kb (off+2) _)).drew 1)⟩
 have HW2:Hid (CloseP C τ w kv F0 rf vs cs σ (((w.setCell ⟨kb,off+1,none⟩ (.slice (some ⟨gu,0,none⟩) vs.length uc)).setCell ⟨kb,off,none⟩ (.slice (some ⟨gv,0,none⟩) vs.length vc)).setCell ⟨kb,off+2,none⟩ (.int .i64 (rf.l - 1))).drew):=Lib.hid
  ⟨_,rfl,HFIN.out _ (rf.l - 1) (zap (zdk _ _ _ _ _ _ (by omega)) _ _) ((((zaf _ kb (off+1) _).same (zaf _ kb off _)).same (zaf _ kb (off+2) _)).drew 1)⟩
 have w1:IntKind.i64.wrap ((vs.length:Int)+1 - 1)=(vs.length:Int):=by rw [IntKind.wrap_i64];omega
 have w2:IntKind.i64.wrap (rf.l - 1)=rf.l - 1:=zei _ (by omega)
 have j0:(0:Int)≤(vs.length:Int):=by omega
 have j1:(vs.length:Int) < (vs.length:Int)+1:=by omega
 have j2:(vs.length:Int)≤(vc:Int):=by omega
 have j3:(vs.length:Int)≤(uc:Int):=by omega
 have l0:(rf.l == 0)=false:=by simp;omega
 have n0:(!(t.toList == t.toList))=false:=by simp
 have i2':Own w 0 3 (.slice ia (σ t).length ic) (σ t):=i2
 have d0':w.cell? ⟨gv,vs.length * 3,none⟩=some (.string t):=d0
 clear i2 d0 h hl dc pc dd pp hcell i1 i3 hbt hkb hv hu hrl hn hn2 hat hac hl1 hl2
 cases bk with
 | true=>
   have d1':w.cell? ⟨gv,vs.length * 3+1,none⟩=some (.int .u8 3):=d1
   have hk:σ t=[]:=hok
   rw [hk] at e0
   clear i2' hk hok d1
   go_enter Tryz.func192,Tryz.ntmps192
   go_wp2_with (go_at_call 216;refine HCU.out.mono ?_;rintro en w3 ⟨rfl,rfl⟩)
   go_region
   all_goals
    go_wp2
    go_ret
    first
     | (with_reducible exact ⟨rfl,HW1.out⟩)
     | (with_reducible exact ⟨rfl,HW2.out⟩)
 | false=>
   have d1':w.cell? ⟨gv,vs.length * 3+1,none⟩=some (.int .u8 1):=d1
   have hk:hd (σ t)=x:=hok
   obtain ⟨ib,io,rfl,ix,_⟩:=zcp i2'.ints (j:=0) (by rw [hone rfl];decide)
   have ix':w.cell? ⟨ib,io,none⟩=some (.int .i64 x):=by rw [← hk,zer (by rw [hone rfl];decide)];simpa using ix
   rw [hone rfl] at e0
   have nx:(x != x)=false:=by simp
   clear i2' hk hok d1 ix hone
   go_enter Tryz.func192,Tryz.ntmps192
   go_wp2_with (go_at_call 216;refine HCU.out.mono ?_;rintro en w3 ⟨rfl,rfl⟩)
   go_region
   all_goals
    go_wp2
    go_ret
    first
     | (with_reducible exact ⟨rfl,HW1.out⟩)
     | (with_reducible exact ⟨rfl,HW2.out⟩)
theorem close_bad(h:SSt C τ w kv F0 rf (vs++[dclN t bk]) (cs++[c]) σ)(hl:cs.length=vs.length)(x:Int)(hrl:1≤rf.l∧rf.l≤200000)(hok:¬closeOk bk (σ t) x):Calls Tryz.prog 192 #[.pointer (some ⟨C.T,0,none⟩),.string t,.int .i64 x] w fun en w'=>en=.returned (.int .i64 16)∧w'=w:=by
 obtain⟨kb,off,ha,_⟩:=h.base.place;obtain⟨p0,p1,p2,pf,hkb,hbt⟩:=h.base.cells ha;have hn:vs.length<(vs++[dclN t bk]).length:=by simp
 have hn2:vs.length<(cs++[c]).length:=by simp[hl]
 obtain⟨gv,vc,dcs,hv,hvc,_,_,dc,dd⟩:=h.fr.vr.elem (by decide) (j:=vs.length) hn;obtain⟨gu,uc,pcs,hu,huc,_,_,pc,pp⟩:=h.fr.cr.elem (by decide) (j:=vs.length) hn2;have hat:at' (vs++[dclN t bk]) vs.length=dclN t bk:=by simp[at',List.getD_eq_getElem?_getD]
 have hac:at' (cs++[c]) vs.length=c:=by rw[←hl];simp[at',List.getD_eq_getElem?_getD]
 rw[hat]at dd;rw[hac]at pp;have hcell:=h.fr.cell vs.length hn;rw[hat,hac]at hcell;have hone:bk=false→(σ t).length=1:=fun e=>hcell.one (by subst e;rfl);obtain⟨iv,i1,i2,i3⟩:=hcell.ex;obtain⟨ia,ic,rfl⟩:=i2.form;have hl1:(vs++[dclN t bk]).length=vs.length+1:=by simp
 have hl2:(cs++[c]).length=vs.length+1:=by simp[hl]
 rw[hl1]at hv hvc;rw[hl2]at hu huc;rw[hv]at p0;rw[hu]at p1;have d0:=dc 0 (by decide);have d1:=dc 1 (by decide);have q0:=pc 0 (by decide);rw[dd.1,show vs.length*DclE.size+0=vs.length*3 from rfl]at d0;rw[dd.2.1,show vs.length*DclE.size+1=vs.length*3+1 from rfl]at d1;rw[show pcs 0=_ from pp,show vs.length*PtrE.size+0=vs.length by show vs.length*1+0=_;omega]at q0;have e0:w.cell? ⟨c,0,none⟩=some (.slice ia (σ t).length ic):=zae i1 0 rfl;have f0:=pf off;have f1:=pf (off+1);have f2:=pf (off+2);have hlen:vs.length+1≤maxLen:=by have:=h.fr.vr.lenle;simpa using this
 unfold maxLen at hlen;have HCU:=Lib.hid (current_I h.base ha);have w1:IntKind.i64.wrap ((vs.length:Int)+1-1)=(vs.length:Int):=by rw[IntKind.wrap_i64];omega
 have w2:IntKind.i64.wrap (rf.l-1)=rf.l-1:=zei _ (by omega);have j0:(0:Int)≤(vs.length:Int):=by omega
 have j1:(vs.length:Int)<(vs.length:Int)+1:=by omega
 have j2:(vs.length:Int)≤(vc:Int):=by omega
 have j3:(vs.length:Int)≤(uc:Int):=by omega
 have l0:(rf.l==0)=false:=by simp;omega
 have n0:(!(t.toList==t.toList))=false:=by simp
 have i2':Own w 0 3 (.slice ia (σ t).length ic) (σ t):=i2;have d0':w.cell? ⟨gv,vs.length*3,none⟩=some (.string t):=d0;clear i2 d0 h hl dc pc dd pp hcell i1 i3 hbt hkb hv hu hrl hn hn2 hat hac hl1 hl2;cases bk with|true=>have d1':w.cell? ⟨gv,vs.length*3+1,none⟩=some (.int .u8 3):=d1;have hk:σ t≠[]:=hok;have hp:0<(σ t).length:=List.length_pos_iff.2 hk;clear i2' hk hok d1;go_enter Tryz.func192,Tryz.ntmps192;go_wp2_with(go_at_call 216;refine HCU.out.mono ?_;rintro en w3⟨rfl,rfl⟩);go_ret;exact⟨rfl,rfl⟩|false=>have d1':w.cell? ⟨gv,vs.length*3+1,none⟩=some (.int .u8 1):=d1;have hk:hd (σ t)≠x:=hok;obtain⟨ib,io,rfl,ix,_⟩:=zcp i2'.ints (j:=0) (by rw[hone rfl];decide);(have ix':w.cell? ⟨ib,io,none⟩=some (.int .i64 (hd (σ t))):=by rw[zer (by rw[hone rfl];decide)];simpa using ix);rw[hone rfl]at e0;(have nx:(hd (σ t)!=x)=true:=by simpa using hk);clear i2' hk hok d1 ix hone;go_enter Tryz.func192,Tryz.ntmps192;go_wp2_with(go_at_call 216;refine HCU.out.mono ?_;rintro en w3⟨rfl,rfl⟩);go_ret;exact⟨rfl,rfl⟩
def rtag(cs':List Nat)(k:Nat):Tg→Tg|.vars=>.oth|.crow=>.oth|.cell=>if k∈cs' then .cell else .oth|.items c=>if c∈cs' then .items c else .oth|t=>t
def entT(τ:Tags)(v' u' kv':Value)(cs':List Nat):Tags:=fun k=>if v'.ownBlock=some k then .vars else if u'.ownBlock=some k then .crow else if kv'.ownBlock=some k then .calls else rtag cs' k (τ k)
structure Susp (τ0:Tags) (n0:Nat) (τ:Tags) (w:World) (rf:RF) (vs:List Dcl) (cs cs':List Nat) (σ:Sto):Prop where
 sz:n0≤w.heap.size
 vr:RowsOwn DclE 54 NoD 0 w rf.v vs
 vt:∀ k,rf.v.ownBlock=some k→τ0 k=.vars∧k < n0
 cr:RowsOwn PtrE 214 NoD 0 w rf.c cs
 ct:∀ k,rf.c.ownBlock=some k→τ0 k=.crow∧k < n0
 len:cs.length=vs.length
 nd:(vs.map Dcl.name).Nodup
 csn:cs.Nodup
 kd:∀ j,j < vs.length→(at' vs j).kind=1∨(at' vs j).kind=3
 clt:∀ j,j < vs.length→at' cs j < n0∧τ0 (at' cs j)=.cell
 cell:∀ j,j < vs.length→at' cs j ∉ cs'→CellAt τ0 w (at' cs j) (at' vs j).kind (σ (at' vs j).name)∧∀ k,τ0 k=.items (at' cs j)→k < n0
 ov:∀ k,k < n0→τ0 k=.vars∨τ0 k=.crow→τ k=.oth
 oc:∀ k,k < n0→τ0 k=.cell→k ∉ cs'→τ k=.oth
 oi:∀ k c,k < n0→τ0 k=.items c→c ∉ cs'→τ k=.oth
theorem Susp.upd {τ0:Tags} {n0:Nat} {τ τ':Tags} {w w':World} {rf:RF} {vs:List Dcl} {cs cs':List Nat} {σ:Sto} (h:Susp τ0 n0 τ w rf vs cs cs' σ) (hu:HUpd τ w τ' w'):Susp τ0 n0 τ' w' rf vs cs cs' σ:=
 { h with
   sz:=Nat.le_trans h.sz hu.keeps.size
   vr:=h.vr.keeps hu.keeps (fun k e hn=>hn (h.ov k (h.vt k e).2 (.inl (h.vt k e).1))) (fun k _ a=>a.elim)
   cr:=h.cr.keeps hu.keeps (fun k e hn=>hn (h.ov k (h.ct k e).2 (.inr (h.ct k e).1))) (fun k _ a=>a.elim)
   cell:=fun j hj hc=>by
    obtain ⟨h1,h2⟩:=h.cell j hj hc
    exact ⟨h1.keeps hu.keeps (fun hn=>hn (h.oc _ (h.clt j hj).1 (h.clt j hj).2 hc)) (fun k e hn=>hn (h.oi k _ (h2 k e) e hc)) rfl (fun _ _ e=>e),h2⟩
   ov:=fun k hk e=>hu.tags k (Nat.lt_of_lt_of_le hk h.sz) (h.ov k hk e)
   oc:=fun k hk e hc=>hu.tags k (Nat.lt_of_lt_of_le hk h.sz) (h.oc k hk e hc)
   oi:=fun k c hk e hc=>hu.tags k (Nat.lt_of_lt_of_le hk h.sz) (h.oi k c hk e hc) }
theorem SSt.entered{kv':Value}(h:SSt C τ w kv F0 rf vs cs σ)(hk:Keeps w w' (fun k=>k=C.T∨kv.ownBlock=some k))(hT:w'.heap[C.T]?=(w.setCell ⟨C.T,3,none⟩ kv').heap[C.T]?)(hrow:RowsOwn RFE 209 NoD 0 w' kv' ((F0++[rf]).tail++[⟨v',u',0⟩]))(hn:NewOr w kv kv')(r1:RowsOwn DclE 54 NoD 0 w' v' ps)(r2:RowsOwn PtrE 214 NoD 0 w' u' cs')(g1:∀k,v'.ownBlock=some k→w.heap.size≤k)(g2:∀k,u'.ownBlock=some k→w.heap.size≤k)(g3:∀k,v'.ownBlock=some k→u'.ownBlock≠some k)(g4:∀k,kv'.ownBlock=some k→v'.ownBlock≠some k∧u'.ownBlock≠some k)(hl:cs'.length=ps.length)(hcsn:cs'.Nodup)(hnd:(ps.map Dcl.name).Nodup)(hkd:∀j,j<ps.length→(at' ps j).kind=1∨(at' ps j).kind=3)(hcs:∀i,i<ps.length→∃j,j<vs.length∧at' cs' i=at' cs j∧(at' vs j).kind=(at' ps i).kind∧σ' (at' ps i).name=σ (at' vs j).name)(hd:F0.length<100):SSt C (entT τ v' u' kv' cs') w' kv' (F0++[rf]) ⟨v',u',0⟩ ps cs' σ'∧HUpd τ w (entT τ v' u' kv' cs') w'∧Susp τ w.heap.size (entT τ v' u' kv' cs') w' rf vs cs cs' σ∧∀k,τ k=.run∨τ k=.ent→entT τ v' u' kv' cs' k=τ k:=by
 have hTlt:=h.base.lt;have hkvo:∀k,k<w.heap.size→kv'.ownBlock=some k→τ k=.calls:=fun k hk2 e=>by rcases hn k e with e2|e2;(·exact h.base.kt k e2);·omega
 have nv:∀k,k<w.heap.size→v'.ownBlock≠some k:=fun k hk2 e=>by have:=g1 k e;omega
 have nu:∀k,k<w.heap.size→u'.ownBlock≠some k:=fun k hk2 e=>by have:=g2 k e;omega
 have told:∀k,k<w.heap.size→τ k≠.calls→entT τ v' u' kv' cs' k=rtag cs' k (τ k):=fun k hk2 hc=>by unfold entT;rw[if_neg (nv k hk2),if_neg (nu k hk2),if_neg (fun e=>hc (hkvo k hk2 e))]
 have tcalls:∀k,k<w.heap.size→τ k=.calls→entT τ v' u' kv' cs' k=.calls:=fun k hk2 e=>by unfold entT;rw[if_neg (nv k hk2),if_neg (nu k hk2)];split;(·rfl);·rw[e];rfl
 have tstore:entT τ v' u' kv' cs' C.T=.store:=by rw[told _ hTlt (by rw[h.base.tT];simp),h.base.tT];rfl
 have toth:∀k,k<w.heap.size→τ k=.oth→entT τ v' u' kv' cs' k=.oth:=fun k hk2 e=>by rw[told k hk2 (by rw[e];simp),e];rfl
 have tcell:∀c,c∈cs'→τ c=.cell→entT τ v' u' kv' cs' c=.cell:=fun c hc e=>by rw[told c (h.tlt (by rw[e];simp)) (by rw[e];simp),e];exact if_pos hc
 have titem:∀k c,c∈cs'→τ k=.items c→entT τ v' u' kv' cs' k=.items c:=fun k c hc e=>by rw[told k (h.tlt (by rw[e];simp)) (by rw[e];simp),e];exact if_pos hc
 have hmut:∀k,k=C.T∨kv.ownBlock=some k→τ k=.store∨τ k=.calls:=fun k e=>by rcases e with rfl|e;(·exact .inl h.base.tT);·exact .inr (h.base.kt k e)
 have hfresh:∀k,w'.heap.size≤k→entT τ v' u' kv' cs' k=.oth:=fun k hk2=>by unfold entT;rw[if_neg (fun e=>by have:=(r1.lt e).2;omega),if_neg (fun e=>by have:=(r2.lt e).2;omega),if_neg (fun e=>by have:=(hrow.lt e).2;omega),h.base.fresh k (Nat.le_trans hk.size hk2)];rfl
 refine⟨⟨?_,?_⟩,?_,?_,fun k e=>?_⟩;·refine⟨?_,?_,fun k e=>?_,tstore,hfresh,by simp;omega⟩;(·rw[hT,heap_setCell_same w C.T 3 _ _ kv' h.base.sb,zdB (by simp:F0++[rf]≠[])];rfl);(·rw[zhk (by simp:F0++[rf]≠[])];exact hrow);·unfold entT;rw[if_neg (g4 k e).1,if_neg (g4 k e).2,if_pos e]
 ·refine⟨r1,fun k e=>by simp[entT,e],r2,fun k e=>?_,hl,hnd,hcsn,hkd,fun i hi=>?_⟩;(·unfold entT;rw[if_neg (fun e2=>g3 k e2 e),if_pos e]);·obtain⟨j,hj,e1,e2,e3⟩:=hcs i hi;have hc:=h.fr.cell j hj;(have hmem:at' cs j∈cs':=by rw[←e1];exact zaz (by omega));rw[e1,e3,←e2];exact hc.keeps hk (fun e=>by rcases hmut _ e with e4|e4<;>(rw[hc.tg]at e4;cases e4)) (fun k e4 e=>by rcases hmut _ e with e5|e5<;>(rw[e4]at e5;cases e5)) ((tcell _ hmem hc.tg).trans hc.tg.symm) (fun k _ e4=>titem k _ hmem e4)
 ·exact⟨hk.mono (fun k e e2=>by rcases hmut k e with e3|e3<;>(rw[e2]at e3;cases e3)),fun k hk2 e=>toth k hk2 e⟩
 ·(have key:∀k,τ k=.vars∨τ k=.crow∨τ k=.cell∨(∃c,τ k=.items c)→¬(k=C.T∨kv.ownBlock=some k):=fun k e e2=>by rcases hmut k e2 with e3|e3<;>(rw[e3]at e;simp at e));refine⟨hk.size,h.fr.vr.keeps hk (fun k e=>key k (.inl (h.fr.vt k e))) (fun k _ a=>a.elim),fun k e=>⟨h.fr.vt k e,(h.fr.vr.lt e).2⟩,h.fr.cr.keeps hk (fun k e=>key k (.inr (.inl (h.fr.ct k e)))) (fun k _ a=>a.elim),fun k e=>⟨h.fr.ct k e,(h.fr.cr.lt e).2⟩,h.fr.len,h.fr.nd,h.fr.csn,h.fr.kd,fun j hj=>⟨(h.fr.cell j hj).lt,(h.fr.cell j hj).tg⟩,fun j hj hc=>?_,fun k hk2 e=>?_,fun k hk2 e hc=>?_,fun k c hk2 e hc=>?_⟩;(·have hcj:=h.fr.cell j hj;exact⟨hcj.keeps hk (key _ (.inr (.inr (.inl hcj.tg)))) (fun k e=>key k (.inr (.inr (.inr ⟨_,e⟩)))) rfl (fun _ _ e=>e),fun k e=>h.tlt (by rw[e];simp)⟩);(·rcases e with e|e<;>(rw[told k hk2 (by rw[e];simp),e];rfl));(·rw[told k hk2 (by rw[e];simp),e];exact if_neg hc);·rw[told k hk2 (by rw[e];simp),e];exact if_neg hc
 ·rcases e with e|e;(·rw[told k (h.tlt (by rw[e];simp)) (by rw[e];simp),e];rfl);·rw[told k (h.tlt (by rw[e];simp)) (by rw[e];simp),e];rfl
def ltag(τ0:Tags)(n0 k:Nat):Tg→Tg|.oth=>if k<n0 then τ0 k else .oth|t=>t
def leftT(τ0:Tags)(n0:Nat)(τ2:Tags):Tags:=fun k=>ltag τ0 n0 k (τ2 k)
theorem zcj(hk:k<n0)(h:τ2 k=.oth):leftT τ0 n0 τ2 k=τ0 k:=by unfold leftT;rw[h];exact if_pos hk
theorem zct{t:Tg}(h:τ2 k=t)(ht:t≠.oth):leftT τ0 n0 τ2 k=t:=by unfold leftT;rw[h];cases t<;>first|exact absurd rfl ht|rfl
theorem SSt.left{a:Option Addr}{rf2:RF}{σ2 σ3:Sto}(h:SSt C τ2 w2 (.slice a (F0.length+1) c) (F0++[rf]) rf2 ps cs' σ2)(hs:Susp τ0 n0 τ2 w2 rf vs cs cs' σ)(hk:Keeps w2 w' (fun k=>k=C.T))(hT:w'.heap[C.T]?=(w2.setCell ⟨C.T,3,none⟩ (.slice a F0.length c)).heap[C.T]?)(hσ:∀j,j<vs.length→(∃i,i<ps.length∧at' cs j=at' cs' i∧(at' ps i).kind=(at' vs j).kind∧σ3 (at' vs j).name=σ2 (at' ps i).name)∨(at' cs j∉cs'∧σ3 (at' vs j).name=σ (at' vs j).name)):SSt C (leftT τ0 n0 τ2) w' (.slice a F0.length c) F0 rf vs cs σ3:=by
 have hkT:∀k,τ2 k≠.store→¬k=C.T:=fun k e e2=>e (by rw[e2];exact h.base.tT);have hfresh:∀k,w'.heap.size≤k→leftT τ0 n0 τ2 k=.oth:=fun k hk2=>by have h1:=h.base.fresh k (Nat.le_trans hk.size hk2);unfold leftT;rw[h1];exact if_neg (by have:=hs.sz;have:=hk.size;omega)
 have hrow:=h.base.row;rw[zhk (by simp:F0++[rf]≠[])]at hrow;have hrow2:=hrow.take (m:=F0.length) (by simp);rw[List.take_left' (by simp)]at hrow2;have hko:∀n,(Value.slice a n c).ownBlock=(Value.slice a (F0.length+1) c).ownBlock:=fun n=>by cases a<;>rfl
 refine⟨⟨?_,?_,fun k e=>?_,zct h.base.tT (by simp),hfresh,?_⟩,?_⟩;·have hsb:=h.base.sb;rw[zdB (by simp:F0++[rf]≠[])]at hsb;rw[hT,heap_setCell_same w2 C.T 3 _ _ _ hsb];rfl
 ·exact hrow2.keeps hk (fun k e=>hkT k (by rw[h.base.kt k (by rw[←hko F0.length];exact e)];simp)) (fun k _ a=>a.elim)
 ·exact zct (h.base.kt k (by rw[←hko F0.length];exact e)) (by simp)
 ·have:=h.base.le;simp at this;omega
 ·have kv:∀k,k<n0→τ2 k=.oth→¬k=C.T:=fun k hk2 e=>hkT k (by rw[e];simp);refine⟨hs.vr.keeps hk (fun k e=>kv k (hs.vt k e).2 (hs.ov k (hs.vt k e).2 (.inl (hs.vt k e).1))) (fun k _ a=>a.elim),fun k e=>?_,hs.cr.keeps hk (fun k e=>kv k (hs.ct k e).2 (hs.ov k (hs.ct k e).2 (.inr (hs.ct k e).1))) (fun k _ a=>a.elim),fun k e=>?_,hs.len,hs.nd,hs.csn,hs.kd,fun j hj=>?_⟩;(·rw[zcj (hs.vt k e).2 (hs.ov k (hs.vt k e).2 (.inl (hs.vt k e).1))];exact(hs.vt k e).1);(·rw[zcj (hs.ct k e).2 (hs.ov k (hs.ct k e).2 (.inr (hs.ct k e).1))];exact(hs.ct k e).1);·rcases hσ j hj with⟨i,hi,e1,e2,e3⟩|⟨e1,e2⟩;(·have hc:=h.fr.cell i hi;rw[e3,e1,←e2];exact hc.keeps hk (hkT _ (by rw[hc.tg];simp)) (fun k e=>hkT k (by rw[e];simp)) ((zct hc.tg (by simp)).trans hc.tg.symm) (fun k _ e=>zct e (by simp)));·obtain⟨hc,hci⟩:=hs.cell j hj e1;have hlt:=hs.clt j hj;rw[e2];refine hc.keeps hk (kv _ hlt.1 (hs.oc _ hlt.1 hlt.2 e1)) (fun k e=>kv k (hci k e) (hs.oi k _ (hci k e) e e1)) (zcj hlt.1 (hs.oc _ hlt.1 hlt.2 e1)) (fun k _ e=>?_);rw[zcj (hci k e) (hs.oi k _ (hci k e) e e1)];exact e
theorem zkS {C:IC} {τ0 τ2:Tags} {w0 w2 w':World} (hu:HUpd τ0 w0 τ2 w2) (hk:Keeps w2 w' (fun k=>k=C.T)) (hT:τ2 C.T=.store):HUpd τ0 w0 (leftT τ0 w0.heap.size τ2) w' where
 keeps:=⟨hk.os.trans hu.keeps.os,hk.tape.trans hu.keeps.tape,hk.output.trans hu.keeps.output,Nat.le_trans hu.keeps.size hk.size,fun b hb hn=>by
  have e0:τ0 b=.oth:=Classical.byContradiction hn
  have e2:=hu.tags b hb e0
  exact (hk.block b (Nat.lt_of_lt_of_le hb hu.keeps.size) (fun e=>by rw [e,hT] at e2;cases e2)).trans (hu.keeps.block b hb hn)⟩
 tags:=fun b hb e=>by rw [zcj hb (hu.tags b hb e)];exact e
def cellsOf(vs:List Dcl)(cs:List Nat)(args:List ByteArray):List Nat:=args.map (fun s=>at' cs (ixD vs s).toNat)
theorem zbm(hi:i<args.length):at' (cellsOf vs cs args) i=at' cs (ixD vs (at' args i)).toNat:=by unfold cellsOf;simp[at',List.getD_eq_getElem?_getD,List.getElem?_map,List.getElem?_eq_getElem hi]
structure ArgsI (vs ps:List Dcl) (args:List ByteArray):Prop where
 len:args.length=ps.length
 le:args.length≤8
 nd:args.Nodup
 vis:∀ i,i < ps.length→visD vs (at' args i)=some (decide ((at' ps i).kind=3))
 pkd:∀ i,i < ps.length→(at' ps i).kind=1∨(at' ps i).kind=3
 pnd:(ps.map Dcl.name).Nodup
theorem ArgsI.ix(h:ArgsI vs ps args)(hf:Frm τ w rf vs cs σ)(hi:i<ps.length):∃j,j<vs.length∧(at' vs j).name=at' args i∧(at' vs j).kind=(at' ps i).kind∧ixD vs (at' args i)=j:=by obtain⟨j,hj,hn,hk,hix,_⟩:=hf.vis (h.vis i hi);refine⟨j,hj,hn,?_,hix⟩;rw[hk];rcases h.pkd i hi with e|e<;>simp[e]
theorem ArgsI.nodup(h:ArgsI vs ps args)(hf:Frm τ w rf vs cs σ):(cellsOf vs cs args).Nodup:=by
 refine List.pairwise_iff_getElem.2 (fun i j hi hj hij e=>?_);have hi':i<args.length:=by simpa[cellsOf]using hi
 have hj':j<args.length:=by simpa[cellsOf]using hj
 have e':at' (cellsOf vs cs args) i=at' (cellsOf vs cs args) j:=by rw[zam hi,zam hj];exact e
 rw[zbm hi',zbm hj']at e';obtain⟨p,hp,np,_,xp⟩:=h.ix hf (i:=i) (by rw[←h.len];exact hi');obtain⟨q,hq,nq,_,xq⟩:=h.ix hf (i:=j) (by rw[←h.len];exact hj');rw[xp,xq]at e';have hpq:p=q:=by by_cases e2:p=q;(·exact e2);·exact absurd (by simpa using e') (hf.cell_ne hp hq e2)
 subst hpq;have:at' args i=at' args j:=np.symm.trans nq;rw[zam hi',zam hj']at this;exact List.pairwise_iff_getElem.1 h.nd i j hi' hj' hij this
def EnterP(C:IC)(τ:Tags)(w:World)(F0:List RF)(rf:RF)(vs:List Dcl)(cs:List Nat)(σ:Sto)(ps:List Dcl)(cs':List Nat)(σ':Sto)(w':World):Prop:=∃τ' kv' rf',rf'.l=0∧SSt C τ' w' kv' (F0++[rf]) rf' ps cs' σ'∧HUpd τ w τ' w'∧Susp τ w.heap.size τ' w' rf vs cs cs' σ∧(∀k,τ k=.run∨τ k=.ent→τ' k=τ k)∧Keeps w w' (fun k=>τ k=.store∨τ k=.calls)
theorem ziJ{W:World}{kv':Value}(h:SSt C τ w kv F0 rf vs cs σ)(ha:ArgsI vs ps args)(hσ:∀i,i<ps.length→σ' (at' ps i).name=σ (at' args i))(hd:F0.length<100)(hb:Below w.heap.size w W)(r1:RowsOwn DclE 54 NoD 0 W v' ps)(r2:RowsOwn PtrE 214 NoD 0 W u' (cellsOf vs cs args))(g1:∀k,v'.ownBlock=some k→w.heap.size≤k)(g2:∀k,u'.ownBlock=some k→w.heap.size≤k)(g3:∀k,v'.ownBlock=some k→u'.ownBlock≠some k)(hown:RowsOwn RFE 209 Yes 0 w2 kv' ((F0++[rf]).tail++[⟨v',u',0⟩]))(hg:W.grownBy w2 kv.ownBlock)(hn:NewOr W kv kv'):(w2.cell? ⟨C.T,3,none⟩=some kv∧w2.frozen? ⟨C.T,3,none⟩=false)∧EnterP C τ w F0 rf vs cs σ ps (cellsOf vs cs args) σ' (w2.setCell ⟨C.T,3,none⟩ kv'):=by
 have hTl:=h.base.lt;have nT:kv.ownBlock≠some C.T:=fun e=>by have:=h.base.kt _ e;rw[h.base.tT]at this;cases this
 have kl:∀k,kv.ownBlock=some k→k<w.heap.size:=fun k e=>(h.base.row.lt e).2;have hk2:Keeps W w2 (fun k=>kv.ownBlock=some k):=Keeps.of_grown hg (fun k e=>.inl e);have hkw:Keeps w w2 (fun k=>kv.ownBlock=some k):=(Keeps.of_below _ hb).same hk2;have hTb:=hkw.block C.T hTl nT;have hs:=zaf w2 C.T 3 kv';have hn2:NewOr w kv kv':=fun k e=>by rcases hn k e with e|e;(·exact .inl e);·exact .inr (Nat.le_trans hb.size e)
 have nT':kv'.ownBlock≠some C.T:=fun e=>by rcases hn2 _ e with e|e;(·exact nT e);·omega
 have hnk:∀k,w.heap.size≤k→kv.ownBlock≠some k:=fun k hk e=>by have:=kl k e;omega
 refine⟨⟨(zcc hTb 3).trans (zae h.base.sb 3 rfl),(zbG hTb 3).trans (unfrozen h.base.sb 3)⟩,?_⟩;have hg4:∀k,kv'.ownBlock=some k→v'.ownBlock≠some k∧u'.ownBlock≠some k:=fun k e=>by constructor;(·intro e2;rcases hn k e with e3|e3;(·exact hnk k (g1 k e2) e3);·have:=(r1.lt e2).2;omega);·intro e2;rcases hn k e with e3|e3;(·exact hnk k (g2 k e2) e3);·have:=(r2.lt e2).2;omega
 have hcs:∀i,i<ps.length→∃j,j<vs.length∧at' (cellsOf vs cs args) i=at' cs j∧(at' vs j).kind=(at' ps i).kind∧σ' (at' ps i).name=σ (at' vs j).name:=fun i hi=>by obtain⟨j,hj,hnm,hkd,hix⟩:=ha.ix h.fr hi;refine⟨j,hj,?_,hkd,by rw[hσ i hi,hnm]⟩;rw[zbm (by rw[ha.len];exact hi),hix];rfl
 obtain⟨q1,q2,q3,q4⟩:=h.entered (w':=w2.setCell ⟨C.T,3,none⟩ kv') (kv':=kv') (v':=v') (u':=u') (ps:=ps) (cs':=cellsOf vs cs args) (σ':=σ') ((hkw.mono (fun k e=>.inr e)).same (hs.mono (fun k e=>.inl e))) (zap hTb _ _) ((hown.flatR (D':=NoD)).keeps hs (fun k e e2=>nT' (e2▸e)) (fun k _ a=>a.elim)) hn2 ((r1.keeps hk2 (fun k e=>hnk k (g1 k e)) (fun k _ a=>a.elim)).keeps hs (fun k e e2=>by have:=g1 k e;omega) (fun k _ a=>a.elim)) ((r2.keeps hk2 (fun k e=>hnk k (g2 k e)) (fun k _ a=>a.elim)).keeps hs (fun k e e2=>by have:=g2 k e;omega) (fun k _ a=>a.elim)) g1 g2 g3 hg4 (by simp[cellsOf,ha.len]) (ha.nodup h.fr) ha.pnd ha.pkd hcs hd;refine⟨_,kv',_,rfl,q1,q2,q3,q4,(hkw.mono (fun k e=>.inr (h.base.kt k e))).same (hs.mono (fun k e=>.inl ?_))⟩;rw[e];exact h.base.tT
theorem zbv{α:Type} [Inhabited α]{l:List α}(h:k<l.length):l.take k++[at' l k]=l.take (k+1):=by rw[List.take_add_one,List.getElem?_eq_getElem h,zam h];rfl
structure NextAt (w wr:World) (ps:List Dcl) (cs':List Nat) (k:Nat) (v u:Value):Prop where
 bel:Below w.heap.size w wr
 blk:wr.heap[w.heap.size]?=some (.cells #[v,u,.int .i64 0] 209 (0,0))
 r1:RowsOwn DclE 54 NoD 0 wr v (ps.take k)
 r2:RowsOwn PtrE 214 NoD 0 wr u (cs'.take k)
 g1:∀ q,v.ownBlock=some q→w.heap.size < q
 g2:∀ q,u.ownBlock=some q→w.heap.size < q
 g3:∀ q,v.ownBlock=some q→u.ownBlock≠some q
theorem NextAt.later{wr wr':World}{v u:Value}(h:NextAt w wr ps cs' k v u)(hb:Below wr.heap.size wr wr'):NextAt w wr' ps cs' k v u:=⟨zab hb h.bel,zac hb h.blk,h.r1.below hb,h.r2.below hb,h.g1,h.g2,h.g3⟩
theorem NextAt.lt{wr:World}{v u:Value}(h:NextAt w wr ps cs' k v u):w.heap.size<wr.heap.size:=by have h:=h.blk;rw[Array.getElem?_eq_some_iff]at h;exact h.1
theorem NextAt.snoc{wr:World}{v u:Value}(h:NextAt w wr ps cs' k v u)(hk:k<ps.length)(hk2:k<cs'.length)(hp:AddP wr w.heap.size 0 v u (ps.take k) (cs'.take k) (at' ps k) (at' cs' k) w2):∃v' u',NextAt w w2 ps cs' (k+1) v' u':=by
 obtain⟨v',u',r1,r2,hb,hkp,n1,n2,n3⟩:=hp;have hlt:=h.lt;refine⟨v',u',h.bel.trans (hkp.below (fun q e=>?_) h.bel.size),?_,by rw[←zbv hk];exact r1,by rw[←zbv hk2];exact r2,fun q e=>?_,fun q e=>?_,n3⟩;·rcases e with e|e|e;(·omega);(·have:=h.g1 q e;omega);·have:=h.g2 q e;omega
 ·have s1:=heap_setCell_same wr w.heap.size 0 _ _ v' h.blk;have s2:=heap_setCell_same _ w.heap.size 1 _ _ u' s1;rw[hb,s2];rfl
 ·rcases n1 q e with e|e;(·exact h.g1 q e);·omega
 ·rcases n2 q e with e|e;(·exact h.g2 q e);·omega
theorem znB{A:Nat→Prop}{g e:Nat}{x:RF}(h:w.heap[g]?=some (.cells #[x.v,x.c,.int .i64 x.l] e (0,0)))(hA:A g)(hv:x.v.oneCell'=true)(hc:x.c.oneCell'=true):RowsAt RFE A w (.slice (some ⟨g,0,none⟩) 1 1) [x]:=zbN h hA rfl ⟨rfl,rfl,rfl,hv,hc⟩
theorem enter_I(h:SSt C τ w kv F0 rf vs cs σ)(ha:ArgsI vs ps args)(hσ:∀i,i<ps.length→σ' (at' ps i).name=σ (at' args i)){pa aa:Option Addr}{pc ac:Nat}{A A':Nat→Prop}(hps:RowsAt DclE A w (.slice pa ps.length pc) ps)(hag:StrsAt A' w (.slice aa args.length ac) args):Calls Tryz.prog 218 #[.pointer (some ⟨C.T,0,none⟩),.slice pa ps.length pc,.slice aa args.length ac] w fun en w'=>F0.length<100∧en=.returned (.int .i64 0)∧EnterP C τ w F0 rf vs cs σ ps (cellsOf vs cs args) σ' w'∨100≤F0.length∧en=.returned (.int .i64 19)∧Below w.heap.size w w':=by
 obtain⟨kb,off,hat,_⟩:=h.base.place;obtain⟨p0,p1,p2,pf,hkb,hbt⟩:=h.base.cells hat;obtain⟨va,vc,hve⟩:=h.fr.vr.form;obtain⟨ua,uc,hue⟩:=h.fr.cr.form;have HROW:RowsAt DclE (fun _=>True) w rf.v vs:=h.fr.vr.shut (fun k a=>a.elim) (fun _ _=>trivial) h.fr.vr.lenle;have HPT:RowsAt PtrE (fun _=>True) w rf.c cs:=h.fr.cr.shut (fun k a=>a.elim) (fun _ _=>trivial) h.fr.cr.lenle;rw[hve]at HROW p0;rw[hue]at HPT p1;have hal:=ha.len;have hle8:=ha.le;have HB0:Below w.heap.size w (w.alloc (.cells #[.slice none 0 0,.slice none 0 0,.int .i64 0] 209)):=zaa (Below.refl _ _);have HCU:=Lib.hid (fun w1(hb1:Below w.heap.size w w1)=>current_I (h.base.keeps (τ':=τ) (Keeps.of_below (fun _=>False) hb1) (fun _ _ e=>e) (fun _ _ _=>rfl) (fun k hk=>h.base.fresh k (Nat.le_trans hb1.size hk))) hat);have HFI:=Lib.hid (fun s w1(hb1:Below w.heap.size w w1)=>find_I kb off vs s va vc _ w1 (HROW.stays (Stays.of_below hb1)) ((hb1.cell (p:=⟨kb,off,none⟩) hkb).trans p0));have HS:=Lib.hid h;have HPS:=Lib.hid hps;have HAG:=Lib.hid hag;have HA:=Lib.hid ha;have HN0:Hid (NextAt w (w.alloc (.cells #[.slice none 0 0,.slice none 0 0,.int .i64 0] 209)) ps (cellsOf vs cs args) 0 (.slice none 0 0) (.slice none 0 0)):=Lib.hid ⟨HB0,zag _ _,RowsOwn.nil _ _ _ _ _,RowsOwn.nil _ _ _ _ _,(fun q e=>by cases e),(fun q e=>by cases e),(fun q e=>by cases e)⟩;have n0:decide (ps.length≠args.length)=false:=by simp[hal]
 rw[hal];have HRW:=Lib.hid HROW;have HPR:=Lib.hid HPT;have HP0:=Lib.hid p0;have HP1:=Lib.hid p1;have HFR:=Lib.hid h.fr;have hcl:cs.length=vs.length:=h.fr.len;have hvl:vs.length≤maxLen:=h.fr.vr.lenle;unfold maxLen at hvl;have HAD:=Lib.hid (fun(wr:World)(k:Nat)(v u:Value)(hN:NextAt w wr ps (cellsOf vs cs args) k v u)(hk:k<ps.length)(W:World)(hb:Below wr.heap.size wr W)=>by have hN':=hN.later hb;(have hnm:(at' ps k).name.size≤maxLen:=by obtain⟨_,_,_,_,_,_,_,_,hcl,hC⟩:=hps.at hk;exact hC.2.2.2);exact add_I w.heap.size 0 (at' ps k) (at' (cellsOf vs cs args) k) v u (ps.take k) ((cellsOf vs cs args).take k) W hN'.r1 hN'.r2 (zae hN'.blk 0 rfl) (zae hN'.blk 1 rfl) (unfrozen hN'.blk) hN'.lt (fun e=>by have:=hN'.g1 _ e;omega) (fun e=>by have:=hN'.g2 _ e;omega) hN'.g3 (by simp;omega) (by simp[cellsOf];omega) hnm);clear h hps hag ha HROW HPT p0 p1 p2;go_enter Tryz.func218,Tryz.ntmps218;go_wp2_with(go_at_call 216;refine(HCU.out _ HB0).mono ?_;rintro en w3⟨rfl,rfl⟩);go_loopw[23](fun i wr=>∃(k:Nat)(v u:Value),k≤ps.length∧i=.int .i64 k∧NextAt w wr ps (cellsOf vs cs args) k v u)(fun i _=>ps.length-(intOf i).toNat);case atStart=>exact⟨0,_,_,Nat.zero_le _,rfl,HN0.out⟩
 case round=>obtain⟨k,v,u,hk,rfl,hN⟩:=hrel;have HN:=Lib.hid hN;have hbel:=hN.bel;clear hN;by_cases hlt:k<ps.length;(·obtain⟨b1,off1,hpe,hb1,c0,c1,c2⟩:=zay (HPS.out.stays (Stays.of_below hbel)) hlt;subst hpe;obtain⟨b2,off2,cap2,hae,hb2,hc2,_,s0,hsz⟩:=(HAG.out.stays (Stays.of_below hbel)).at (j:=k) (by omega);simp only[Value.slice.injEq]at hae;obtain⟨rfl,-,rfl⟩:=hae;obtain⟨j,hj,hjn,hjk,hix⟩:=HA.out.ix HFR.out hlt;have HW1:Below wr.heap.size wr (wr.alloc (.cells #[.string (at' ps k).name,.int .u8 (at' ps k).kind,.int .i64 0] 54)):=zaa (Below.refl _ _);have HB1:=Lib.hid (zab HW1 hbel);have HF:=Lib.hid (HFI.out (at' args k) _ HB1.out);rw[hix]at HF;have hix0:=hix;obtain⟨bv,ov,rfl,_,d0,d1,d2⟩:=zay (HRW.out.stays (Stays.of_below HB1.out)) hj;obtain⟨bu,ou,capu,pcs,hpu,_,hcu,_,pc,pp⟩:=(HPR.out.stays (Stays.of_below HB1.out)).at (j:=j) (by omega);simp only[Value.slice.injEq]at hpu;obtain⟨rfl,-,rfl⟩:=hpu;have pc0:=pc 0 (by decide);rw[show pcs 0=_ from pp,show ou+j*PtrE.size+0=ou+j by show ou+j*1+0=_;omega]at pc0;have p0:=(HB1.out.cell (p:=⟨kb,off,none⟩) hkb).trans HP0.out;have p1:=(HB1.out.cell (p:=⟨kb,off+1,none⟩) hkb).trans HP1.out;rw[hcl]at p1;obtain⟨y0,y1,y2⟩:=cells3K (zag wr (.cells #[.string (at' ps k).name,.int .u8 (at' ps k).kind,.int .i64 0] 54));(have hkk:((at' vs j).kind !=(at' ps k).kind)=false:=by simp[hjk]);(have k0:(0:Int)≤(j:Int):=by omega);(have k1:(j:Int)<(vs.length:Int):=by omega);(have hjd:¬((j:Int)<0):=by omega);(have hca:at' (cellsOf vs cs args) k=at' cs j:=by rw[zbm (by omega),hix0];rfl);clear pc pp;(have i0:(0:Int)≤(k:Int):=by omega);(have i1:(k:Int)<(ps.length:Int):=by omega);have HADk:Hid (∀W,Below wr.heap.size wr W→Calls Tryz.prog 162 #[.pointer (some ⟨w.heap.size,0,none⟩),.agg #[.string (at' ps k).name,.int .u8 (at' ps k).kind,.int .i64 0],.pointer (some ⟨at' cs j,0,none⟩)] W fun e w'=>e=.returned (.tuple #[])∧∃v' u',NextAt w w' ps (cellsOf vs cs args) (k+1) v' u'):=Lib.hid (fun W hb=>by have h1:=HAD.out wr k v u HN.out hlt W hb;rw[hca]at h1;refine h1.mono (fun e w' hh=>⟨hh.1,(HN.out.later hb).snoc hlt (by simp[cellsOf];omega) ?_⟩);rw[hca];exact hh.2);clear hix hix0 hjn hjk;go_wp2_with(go_at_call 217;refine HF.out.mono ?_;rintro en w3⟨rfl,rfl⟩);go_quiet(fail);go_wp2;go_region_law(first|(go_simp;go_at_call 162;(with_reducible refine(HADk.out _ (zak HW1 _)).mono ?_);rintro en w4⟨rfl,v',u',hN'⟩)|fail);all_goals go_wp2;go_roundw;(case rel=>exact⟨k+1,v',u',by omega,by go_num,hN'⟩);case measure=>simp[intOf];omega);·(obtain rfl:k=ps.length:=by omega);obtain⟨ka,kc,hke⟩:=HS.out.base.row.form;rw[zbD]at hke;have hT3:wr.cell? ⟨C.T,3,none⟩=some kv:=zae (zac hbel HS.out.base.sb) 3 rfl;have hTf:=unfrozen (zac hbel HS.out.base.sb);rw[hke]at hT3;obtain⟨x0,x1,x2⟩:=cells3K HN.out.blk;by_cases hd:F0.length<100;(·have d0:decide ((100:Int)≤(F0.length:Int))=false:=decide_eq_false (by omega);have hr1:=HN.out.r1;have hr2:=HN.out.r2;rw[List.take_length]at hr1;rw[List.take_of_length_le (by simp[cellsOf];omega)]at hr2;obtain⟨_,_,hve⟩:=hr1.form;obtain⟨_,_,hue⟩:=hr2.form;(have hov:v.oneCell'=true:=by rw[hve];rfl);(have hou:u.oneCell'=true:=by rw[hue];rfl);clear hve hue;have hTlt:C.T<wr.heap.size:=Nat.lt_of_lt_of_le HS.out.base.lt hbel.size;have hT3':=((zaa (x:=.cells #[v,u,.int .i64 0] 209) (Below.refl wr.heap.size wr)).cell (p:=⟨C.T,3,none⟩) hTlt).trans hT3;have HE:=Lib.hid (fun W w2 a' c'(hb:Below wr.heap.size wr W)=>ziJ (W:=W) (w2:=w2) (kv':=.slice a' ((F0++[rf]).tail.length+[(⟨v,u,0⟩:RF)].length) c') HS.out HA.out hσ hd (zab hb hbel) (hr1.below hb) (hr2.below hb) (fun q e=>Nat.le_of_lt (HN.out.g1 q e)) (fun q e=>Nat.le_of_lt (HN.out.g2 q e)) HN.out.g3);have HRO:=Lib.hid (fun W(hb:Below wr.heap.size wr W)=>(HS.out.base.row.below (zab hb hbel)).flatR (D':=Yes));have HYO:=Lib.hid (fun(W:World)=>zgF (W:=W) HS.out.base.row);have HZ:=Lib.hid hbel.size;rw[hke]at HRO HYO HE;have HL:Hid ((F0++[rf]).tail.length+[(⟨v,u,0⟩:RF)].length≤maxLen∧((F0++[rf]).tail.length+[(⟨v,u,0⟩:RF)].length)*56≤140737488355328):=Lib.hid (by rw[zbD];unfold maxLen;simp;omega);have HLN:Hid ((F0++[rf]).tail.length+[(⟨v,u,0⟩:RF)].length=F0.length+1):=Lib.hid (by rw[zbD];rfl);have HD:=Lib.hid hd;clear hlt hr1 hr2 hd hbel hke hTlt;go_upto_region 19 with fail;go_region_law(first|(refine zaS TRFI (by rfl) (by decide) (by rfl) (.tmp 80) (.tmp 82) (by rfl) (by rfl) (by rfl) (HRO.out _ (by exact(by(repeat(with_reducible first|exact Below.refl _ _|refine zad ?_|refine zaa ?_|(apply zab;focus assumption)))))) (znB (x:=⟨v,u,0⟩) (by exact(by(repeat(with_reducible first|(refine zal ?_;(simp;done))|(refine zal ?_;rfl)|refine zaj ?_|refine zah ?_|(apply zac;focus assumption))))) (by unfold Up;have:=HZ.out;first|(simp;done)|(simp;omega)) hov hou) (HYO.out _) (by exact HL.out.1) (by exact HL.out.2) (Nat.zero_le _) ?_;intro a1 c1 w2 hown hg hnew;obtain⟨⟨e1,e2⟩,hP⟩:=HE.out _ w2 a1 c1 (by exact(by(repeat(with_reducible first|exact Below.refl _ _|refine zad ?_|refine zaa ?_|(apply zab;focus assumption))))) hown hg hnew;have HP:=Lib.hid hP;clear hown hg hnew hP)|fail);all_goals go_wp2;go_ret;have hh:=HP.out;rw[HLN.out]at hh;exact .inl ⟨HD.out,rfl,hh⟩);·have d0:decide ((100:Int)≤(F0.length:Int))=true:=decide_eq_true (by omega);have HD:=Lib.hid hd;clear hlt hd;go_wp2;go_ret;exact .inr ⟨by have:=HD.out;omega,rfl,hbel⟩
end Go.Proofs.YtnjfnellghhkaaaGreatDoor
