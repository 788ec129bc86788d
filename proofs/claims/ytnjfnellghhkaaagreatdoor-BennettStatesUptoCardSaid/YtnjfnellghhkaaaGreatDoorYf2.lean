/- Contracts and plain lemmas (PTmp0, PTmp, PAcc, PChk, PLawA, PLawB, PPrc, ScpG, IoY, IoZ): no statement of the seat is proved here. -/
import Derived.Test.YtnjfnellghhkaaaGreatDoorYa1
import Derived.Test.YtnjfnellghhkaaaGreatDoorYc3
import Derived.Test.YtnjfnellghhkaaaGreatDoorYd2
import Derived.Test.YtnjfnellghhkaaaGreatDoorYd1
import Derived.Test.YtnjfnellghhkaaaGreatDoorYf1
import Derived.Test.YtnjfnellghhkaaaGreatDoorYe6
import Derived.Test.YtnjfnellghhkaaaGreatDoorYe1
set_option linter.unusedSimpArgs false
set_option linter.unusedVariables false
set_option linter.unusedSectionVars false
set_option maxRecDepth 100000
set_option maxHeartbeats 6400000
namespace Go.Proofs.YtnjfnellghhkaaaGreatDoor
mutual
def preN:Nd→List Nd
 | .mk k num name kids=>.mk k num name kids :: preL kids
def preL:List Nd→List Nd
 | []=>[]
 | n :: r=>preN n ++ preL r
end
inductive EOk (V:Vis):Nd→Prop
 | num (x:Int) (h:0≤x):EOk V (numN x)
 | var (s:ByteArray) (h:V s=some false):EOk V (vN s)
 | op (k:Int) (a b:Nd) (hk:8≤k∧k≤23) (ha:EOk V a) (hb:EOk V b):EOk V (nodeN k ByteArray.empty [a,b])
 | stk (k:Int) (s:ByteArray) (hk:k=4∨k=5) (h:V s=some true):EOk V (nodeN k s [])
def isLeaf(n:Nd):Prop:=(∃x,n=numN x)∨∃s,n=vN s
def callK(k:Int)(p:ByteArray)(args:List ByteArray):Nd:=nodeN k p (args.map vN)
inductive SOk (P:ByteArray→Option (List Bool)):Vis→Nd→Prop
 | asg {V:Vis} (k:Int) (x:ByteArray) (e:Nd) (hk:k=40∨k=41∨k=42) (hx:V x=some false) (he:EOk V e) (hm:∀ m ∈ preN e,m.name≠x):SOk P V (nodeN k ByteArray.empty [vN x,e])
 | stk {V:Vis} (k:Int) (s x:ByteArray) (hk:k=44∨k=45) (hs:V s=some true) (hx:V x=some false):SOk P V (nodeN k s [vN x])
 | cond {V:Vis} (x:ByteArray) (l1 l2:List Nd) (hx:V x=some false) (h1:∀ s ∈ l1,SOk P V s) (h2:∀ s ∈ l2,SOk P V s):SOk P V (nodeN 52 ByteArray.empty [vN x,blockN l1,blockN l2,vN x])
 | from_ {V:Vis} (c d:Nd) (s:ByteArray) (l:List Nd) (hs:V s=some true) (hc:EOk V c) (hcl:isLeaf c) (hd:EOk V d) (hl:∀ s ∈ l,SOk P V s):SOk P V (nodeN 53 ByteArray.empty [nodeN 16 ByteArray.empty [nodeN 5 s [],c],blockN [],blockN l,d])
 | loc {V:Vis} (t:ByteArray) (a c:Nd) (l:List Nd) (hn:NmOk t) (ht:V t=none) (ha:EOk V a) (hc:EOk V c) (hl:∀ s ∈ l,SOk P (V.put t false) s):SOk P V (nodeN 54 t [a,blockN l,c])
 | locs {V:Vis} (t:ByteArray) (l:List Nd) (hn:NmOk t) (ht:V t=none) (hl:∀ s ∈ l,SOk P (V.put t true) s):SOk P V (nodeN 55 t [blockN l])
 | call {V:Vis} (k:Int) (p:ByteArray) (args:List ByteArray) (ks:List Bool) (hk:k=50∨k=51) (hp:P p=some ks) (hl:args.length=ks.length) (h8:args.length≤8) (ha:∀ i,i < args.length→V (at' args i)=some (at' ks i)) (hd:args.Nodup):SOk P V (callK k p args)
def BOk(P:ByteArray→Option (List Bool))(V:Vis)(n:Nd):Prop:=∃l,n=blockN l∧∀s∈l,SOk P V s
theorem znx(s:ByteArray):preN (vN s)=[vN s]:=by rw[vN,preN,preL]
theorem zmI(x:Int):preN (numN x)=[numN x]:=by rw[numN,preN,preL]
theorem zmJ(k:Int)(s:ByteArray):preN (nodeN k s [])=[nodeN k s []]:=by rw[nodeN,preN,preL]
theorem znw(k:Int)(a b:Nd):preN (nodeN k ByteArray.empty [a,b])=nodeN k ByteArray.empty [a,b]::(preN a++preN b):=by rw[nodeN,preN,preL,preL,preL,List.append_nil]
variable {A:Nat → Prop}{L:List Dcl}{P:ByteArray → Option (  List Bool )}{V:Vis}{a:Option Addr}{i:Nat}{j:Nat}{l:List Nd}{n:Nd}{p:Prg}{s:ByteArray}{w:World}{x:ByteArray}
theorem zcA{α β:Type} [Inhabited α] [Inhabited β](f:α→β){l:List α}(h:j<l.length):at' (l.map f) j=f (at' l j):=by simp[at',List.getD_eq_getElem?_getD,List.getElem?_map,List.getElem?_eq_getElem h]
open Go.RowKit
theorem zcl(hV:∀s b,V s=some b→NmOk s)(h:EOk V n):Passes 144 n:=by induction h with|num x hx=>exact zdl x hx|var s hs=>exact zaC 2 s (.inl rfl) (hV _ _ hs)|op k a b hk _ _ ha hb=>exact zcU k a b hk.1 hk.2 ha hb|stk k s hk hs=>exact zaC k s (by omega) (hV _ _ hs)
theorem zbV(h:∀s∈l,Passes 117 s):Passes 118 (blockN l):=zfC l (fun j hj=>h _ (zaz hj))
theorem zhg{t:ByteArray}{b:Bool}(ht:NmOk t)(hV:∀s b,V s=some b→NmOk s):∀s c,V.put t b s=some c→NmOk s:=fun s c h=>by by_cases e:s=t;(·rw[e];exact ht);·simp only[Vis.put,if_neg e]at h;exact hV _ _ h
theorem zlj(hP:∀p ks,P p=some ks→NmOk p)(h:SOk P V n):(∀s b,V s=some b→NmOk s)→Passes 117 n:=by induction h with|asg k x e hk hx he hm=>intro hV;have p1:=zci x (hV _ _ hx);have p2:=zcl hV he;rcases hk with rfl|rfl|rfl;(·exact zbs 40 _ _ (.inl rfl) p1 p2);(·exact zdt _ _ p1 p2);·exact zbs 42 _ _ (.inr rfl) p1 p2|stk k s x hk hs hx=>intro hV;exact zgq k s _ hk (hV _ _ hs) (zci x (hV _ _ hx))|cond x l1 l2 hx _ _ i1 i2=>intro hV;have pv:=zaC 2 x (.inl rfl) (hV _ _ hx);exact zfD 52 _ _ _ _ (.inl rfl) pv (zbV (fun s hs=>i1 s hs hV)) (zbV (fun s hs=>i2 s hs hV)) pv|from_ c d s l hs hc hcl hd _ il=>intro hV;exact zfD 53 _ _ _ _ (.inr rfl) (zcU 16 _ _ (by omega) (by omega) (zaC 5 s (by omega) (hV _ _ hs)) (zcl hV hc)) (zbV (fun s hs=>by simp at hs)) (zbV (fun s hs=>il s hs hV)) (zcl hV hd)|loc t a c l hn ht ha hc _ il=>intro hV;exact zfE t a _ c hn (zcl hV ha) (zbV (fun s hs=>il s hs (zhg hn hV))) (zcl hV hc)|locs t l hn ht _ il=>intro hV;exact zgp t _ hn (zbV (fun s hs=>il s hs (zhg hn hV)))|call k p args ks hk hp hl h8 ha hd=>intro hV;refine zgo k p _ hk (hP _ _ hp) (by simpa using h8) (fun j hj=>?_);rw[List.length_map]at hj;rw[zcA _ hj];exact zmv _ (hV _ _ (ha j hj))
theorem zgI(hP:∀p ks,P p=some ks→NmOk p)(hV:∀s b,V s=some b→NmOk s)(h:BOk P V n):Passes 118 n:=by obtain⟨l,rfl,hl⟩:=h;exact zbV (fun s hs=>zlj hP (hl s hs) hV)
theorem znh{l:List Prc}(h:idxP l s<l.length):IdxP l s (idxP l s):=by
 refine⟨h,?_,fun j hj=>?_⟩;·have:=List.findIdx_getElem (p:=fun p:Prc=>decide (p.name=s)) (xs:=l) (w:=h);rw[zam h];exact of_decide_eq_true this
 ·have:=List.not_of_lt_findIdx (p:=fun p:Prc=>decide (p.name=s)) (xs:=l) (i:=j) hj;rw[zam (Nat.lt_trans hj h)];simpa using this
def prcT(l:List Prc)(s:ByteArray):Option (List Bool):=if idxP l s<l.length then some ((at' l (idxP l s)).params.map (fun d=>decide (d.kind=3)))else none
theorem zfP{l:List Prc}{ks:List Bool}(h:prcT l s=some ks):∃q,IdxP l s q∧ks=(at' l q).params.map (fun d=>decide (d.kind=3)):=by
 unfold prcT at h;by_cases e:idxP l s<l.length;·rw[if_pos e]at h;exact⟨_,znh e,(Option.some.inj h).symm⟩
 ·rw[if_neg e]at h;cases h
theorem zdQ(h4:n.kind≠54)(h5:n.kind≠55)(i:Int)(L:List Dcl):innerL n i L=L:=by unfold innerL;rw[if_neg (by omega),if_neg (by omega)]
theorem zcz(h:n.kind≠2∧n.kind≠3∧n.kind≠4∧n.kind≠5∧n.kind≠44∧n.kind≠45∧n.kind≠50∧n.kind≠51∧n.kind≠54∧n.kind≠55)(hk:∀m∈n.kids,VisOk p L m):VisOk p L n:=.node L n (by omega) (.inr (.inr (.inr (.inr h)))) (fun i hi=>by rw[zdQ (by omega) (by omega)];exact hk _ (zaz hi))
theorem zeg(hL:DclsOk L)(h:visD L s=some false):VisOk p L (vN s):=.node L _ (by simp[vN,Nd.kind]) (.inl ⟨rfl,zby hL h⟩) (fun i hi=>absurd hi (by simp[vN,Nd.kids]))
theorem zdM(hL:DclsOk L)(hV:V=visD L)(h:EOk V n):VisOk p L n:=by subst hV;induction h with|num x hx=>exact zcz (by simp[numN,Nd.kind]) (fun m hm=>by simp[numN,Nd.kids]at hm)|var s hs=>exact zeg hL hs|op k a b hk _ _ ha hb=>refine zcz (by simp only[nodeN,Nd.kind];omega) (fun m hm=>?_);simp only[nodeN,Nd.kids,List.mem_cons,List.not_mem_nil,or_false]at hm;rcases hm with rfl|rfl;(·exact ha);·exact hb|stk k s hk hs=>exact .node L _ (by simp only[nodeN,Nd.kind];omega) (.inr (.inl ⟨by simp only[nodeN,Nd.kind];omega,zby hL hs⟩)) (fun i hi=>absurd hi (by simp[nodeN,Nd.kids]))
theorem zcK(h:∀s∈l,VisOk p L s):VisOk p L (blockN l):=zcz (by simp[blockN,nodeN,Nd.kind]) h
theorem DclsOk.snoc(h:DclsOk L)(s:ByteArray)(b:Bool):DclsOk (L++[dclN s b]):=fun d hd=>by rcases List.mem_append.1 hd with hd|hd;(·exact h d hd);·rw[List.mem_singleton.1 hd];cases b<;>simp[dclN]
theorem zmP {p:Prg} (hp:∀ q ∈ p.procs,DclsOk q.params) {V:Vis} {n:Nd} (h:SOk (prcT p.procs) V n):∀ L,DclsOk L→V=visD L→VisOk p L n:=by
 induction h with
 | asg k x e hk hx he hm=>
   intro L hL hV
   refine zcz (by simp only [nodeN,Nd.kind];omega) (fun m hm=>?_)
   simp only [nodeN,Nd.kids,List.mem_cons,List.not_mem_nil,or_false] at hm
   rcases hm with rfl|rfl
   · exact zeg hL (hV ▸ hx)
   · exact zdM hL hV he
 | stk k s x hk hs hx=>
   intro L hL hV
   refine .node L _ (by simp only [nodeN,Nd.kind];omega) (.inr (.inl ⟨by simp only [nodeN,Nd.kind];omega,zby hL (hV ▸ hs)⟩)) (fun i hi=>?_)
   rw [zdQ (by simp only [nodeN,Nd.kind];omega) (by simp only [nodeN,Nd.kind];omega)]
   obtain rfl:i=0:=by simp [nodeN,Nd.kids] at hi;omega
   exact zeg hL (hV ▸ hx)
 | cond x l1 l2 hx _ _ i1 i2=>
   intro L hL hV
   refine zcz (by simp [nodeN,Nd.kind]) (fun m hm=>?_)
   simp only [nodeN,Nd.kids,List.mem_cons,List.not_mem_nil,or_false] at hm
   rcases hm with rfl|rfl|rfl|rfl
   · exact zeg hL (hV ▸ hx)
   · exact zcK (fun s hs=>i1 s hs L hL hV)
   · exact zcK (fun s hs=>i2 s hs L hL hV)
   · exact zeg hL (hV ▸ hx)
 | from_ c d s l hs hc hcl hd _ il=>
   intro L hL hV
   refine zcz (by simp [nodeN,Nd.kind]) (fun m hm=>?_)
   simp only [nodeN,Nd.kids,List.mem_cons,List.not_mem_nil,or_false] at hm
   rcases hm with rfl|rfl|rfl|rfl
   · exact zdM hL hV (.op 16 _ _ (by omega) (.stk 5 s (.inr rfl) hs) hc)
   · exact zcK (fun s hs=>by simp at hs)
   · exact zcK (fun s hs=>il s hs L hL hV)
   · exact zdM hL hV hd
 | loc t a c l hn ht ha hc _ il=>
   intro L hL hV
   refine .node L _ (by simp [nodeN,Nd.kind]) (.inr (.inr (.inl ⟨by simp [nodeN,Nd.kind],zef (hV ▸ ht)⟩))) (fun i hi=>?_)
   have hi3:i < 3:=by simpa [nodeN,Nd.kids] using hi
   match i,hi3 with
   | 0,_=>exact zdM hL hV ha
   | 1,_=>exact zcK (fun s hs=>il s hs (L ++ [dclN t false]) (hL.snoc t false) (by rw [zbx,hV]))
   | 2,_=>exact zdM hL hV hc
 | locs t l hn ht _ il=>
   intro L hL hV
   refine .node L _ (by simp [nodeN,Nd.kind]) (.inr (.inr (.inl ⟨by simp [nodeN,Nd.kind],zef (hV ▸ ht)⟩))) (fun i hi=>?_)
   obtain rfl:i=0:=by simp [nodeN,Nd.kids] at hi;omega
   exact zcK (fun s hs=>il s hs (L ++ [dclN t true]) (hL.snoc t true) (by rw [zbx,hV]))
 | call k q args ks hk hq hl h8 ha hd=>
   intro L hL hV
   obtain ⟨j,hj,rfl⟩:=zfP hq
   have hlen:args.length=(at' p.procs j).params.length:=by rw [hl,List.length_map]
   refine .call L _ hk (.inr (.inr (.inr (.inl ⟨hk,j,hj,by simpa [callK,nodeN,Nd.kids] using hlen⟩)))) ⟨j,hj,by simpa [callK,nodeN,Nd.kids] using hlen,fun i hi=>?_⟩
   have hi2:i < args.length:=by simpa [callK,nodeN,Nd.kids] using hi
   have e:(at' (callK k q args).kids i).name=at' args i:=by
    show (at' (args.map vN) i).name=_
    rw [zcA _ hi2];rfl
   rw [e]
   have h1:=ha i hi2
   rw [hV,zcA _ (by omega)] at h1
   obtain ⟨d,hd1,hd2⟩:=zby hL h1
   refine ⟨d,hd1,?_⟩
   rw [hd2]
   rcases hp _ (zaz hj.lt) _ (zaz (l:=(at' p.procs j).params) (j:=i) (by omega)) with e3|e3 <;> simp [e3]
theorem ziv(hp:∀q∈p.procs,DclsOk q.params)(hL:DclsOk L)(h:BOk (prcT p.procs) (visD L) n):VisOk p L n:=by obtain⟨l,rfl,hl⟩:=h;exact zcK (fun s hs=>zmP hp (hl s hs) L hL rfl)
def RejOk(n:Nd):Prop:=((n.kind=40∨n.kind=41∨n.kind=42)∧∃x e,n.kids=[vN x,e]∧∀m∈preN e,m.name≠x)∨((n.kind=44∨n.kind=45)∧∃x,n.kids=[vN x])∨((n.kind=50∨n.kind=51)∧∃args:List ByteArray,n.kids=args.map vN∧args.Nodup)∨(n.kind=52∧∃a b c x,n.kids=[a,b,c,vN x]∧NmOk x)∨(n.kind=53∧∃s c b1 b2 d,n.kids=[nodeN 16 ByteArray.empty [nodeN 5 s [],c],b1,b2,d]∧isLeaf c∧(c.kind=1→0≤c.num)∧Passes 144 (nodeN 16 ByteArray.empty [nodeN 5 s [],c]))∨((1≤n.kind∧n.kind≤23)∨n.kind=54∨n.kind=55∨n.kind=57)
theorem zmg(h:EOk V n):n.kind=1→0≤n.num:=fun hk=>by cases h with|num x hx=>exact hx|var s hs=>exact absurd hk (by simp[vN,Nd.kind])|op k a b hk2 _ _=>simp only[nodeN,Nd.kind]at hk;omega|stk k s hk2 hs=>simp only[nodeN,Nd.kind]at hk;omega
theorem zdL(h:EOk V n):∀m∈preN n,RejOk m:=by have low:∀m:Nd,(1≤m.kind∧m.kind≤23)→RejOk m:=fun m h=>.inr (.inr (.inr (.inr (.inr (.inl h)))));induction h with|num x hx=>intro m hm;rw[zmI,List.mem_singleton]at hm;rw[hm];exact low _ (by simp[numN,Nd.kind])|var s hs=>intro m hm;rw[znx,List.mem_singleton]at hm;rw[hm];exact low _ (by simp[vN,Nd.kind])|op k a b hk _ _ ha hb=>intro m hm;rw[znw,List.mem_cons,List.mem_append]at hm;rcases hm with rfl|hm|hm;(·exact low _ (by simp only[nodeN,Nd.kind];omega));(·exact ha m hm);·exact hb m hm|stk k s hk hs=>intro m hm;rw[zmJ,List.mem_singleton]at hm;rw[hm];exact low _ (by simp only[nodeN,Nd.kind];omega)
theorem zla{m:Nd}:m∈preL l↔∃n∈l,m∈preN n:=by induction l with|nil=>simp[preL]|cons n r ih=>rw[preL,List.mem_append,ih];simp
theorem zlb(k:Int)(s:ByteArray)(l:List Nd):preN (nodeN k s l)=nodeN k s l::preL l:=by rw[nodeN,preN]
theorem zbC{k:Int}(h:RejOk (nodeN k s l))(hl:∀n∈l,∀m∈preN n,RejOk m):∀m∈preN (nodeN k s l),RejOk m:=fun m hm=>by rw[zlb,List.mem_cons]at hm;rcases hm with rfl|hm;(·exact h);·obtain⟨n,hn,hm⟩:=zla.1 hm;exact hl n hn m hm
theorem zjD(s:ByteArray):∀m∈preN (vN s),RejOk m:=fun m hm=>by rw[znx,List.mem_singleton]at hm;rw[hm];exact .inr (.inr (.inr (.inr (.inr (.inl (by simp[vN,Nd.kind]))))))
theorem zcH(hl:∀n∈l,∀m∈preN n,RejOk m):∀m∈preN (blockN l),RejOk m:=zbC (.inr (.inr (.inr (.inr (.inr (.inr (.inr (.inr rfl)))))))) hl
theorem zmO(h:SOk P V n):(∀s b,V s=some b→NmOk s)→∀m∈preN n,RejOk m:=by induction h with|asg k x e hk hx he hm=>intro hV;refine zbC (.inl ⟨hk,x,e,rfl,hm⟩) (fun n hn=>?_);simp only[List.mem_cons,List.not_mem_nil,or_false]at hn;rcases hn with rfl|rfl;(·exact zjD x);·exact zdL he|stk k s x hk hs hx=>intro hV;refine zbC (.inr (.inl ⟨hk,x,rfl⟩)) (fun n hn=>?_);rw[List.mem_singleton.1 hn];exact zjD x|cond x l1 l2 hx _ _ i1 i2=>intro hV;refine zbC (.inr (.inr (.inr (.inl ⟨rfl,_,_,_,x,rfl,hV _ _ hx⟩)))) (fun n hn=>?_);simp only[List.mem_cons,List.not_mem_nil,or_false]at hn;rcases hn with rfl|rfl|rfl|rfl;(·exact zjD x);(·exact zcH (fun s hs=>i1 s hs hV));(·exact zcH (fun s hs=>i2 s hs hV));·exact zjD x|from_ c d s l hs hc hcl hd _ il=>intro hV;have he:EOk _ (nodeN 16 ByteArray.empty [nodeN 5 s [],c]):=.op 16 _ _ (by omega) (.stk 5 s (.inr rfl) hs) hc;refine zbC (.inr (.inr (.inr (.inr (.inl ⟨rfl,s,c,_,_,_,rfl,hcl,zmg hc,zcl hV he⟩))))) (fun n hn=>?_);simp only[List.mem_cons,List.not_mem_nil,or_false]at hn;rcases hn with rfl|rfl|rfl|rfl;(·exact zdL he);(·exact zcH (fun s hs=>by simp at hs));(·exact zcH (fun s hs=>il s hs hV));·exact zdL hd|loc t a c l hn ht ha hc _ il=>intro hV;refine zbC (.inr (.inr (.inr (.inr (.inr (.inr (.inl rfl))))))) (fun n hn2=>?_);simp only[List.mem_cons,List.not_mem_nil,or_false]at hn2;rcases hn2 with rfl|rfl|rfl;(·exact zdL ha);(·exact zcH (fun s hs=>il s hs (zhg hn hV)));·exact zdL hc|locs t l hn ht _ il=>intro hV;refine zbC (.inr (.inr (.inr (.inr (.inr (.inr (.inr (.inl rfl)))))))) (fun n hn2=>?_);rw[List.mem_singleton.1 hn2];exact zcH (fun s hs=>il s hs (zhg hn hV))|call k q args ks hk hq hl h8 ha hd=>intro hV;refine zbC (.inr (.inr (.inl ⟨hk,args,rfl,hd⟩))) (fun n hn=>?_);obtain⟨s,_,rfl⟩:=List.mem_map.1 hn;exact zjD s
theorem ziu(hV:∀s b,V s=some b→NmOk s)(h:BOk P V n):∀m∈preN n,RejOk m:=by obtain⟨l,rfl,hl⟩:=h;exact zcH (fun s hs=>zmO (hl s hs) hV)
theorem zhd{α:Type} [Inhabited α]{l:List α}(h:l.Nodup)(hij:i<j)(hj:j<l.length):at' l i≠at' l j:=by rw[zam hj,zam (Nat.lt_trans hij hj)];exact List.pairwise_iff_getElem.1 h i j (Nat.lt_trans hij hj) hj hij
def DeclsOk(l:List Dcl):Prop:=(∀d∈l,DclOk d)∧(l.map Dcl.name).Nodup
theorem DeclsOk.names{l:List Dcl}(h:DeclsOk l)(hij:i<j)(hj:j<l.length):(at' l i).name≠(at' l j).name:=by have:=zhd h.2 hij (by simpa using hj);rwa[zcA _ (Nat.lt_trans hij hj),zcA _ hj]at this
theorem DeclsOk.fresh{l:List Dcl}(h:DeclsOk l)(hi:i<l.length):findD (l.take i) (at' l i).name=none:=zcm (fun d hd e=>by obtain⟨j,hj,rfl⟩:=List.getElem_of_mem hd;rw[List.length_take]at hj;have:=h.names (show j<i by omega) hi;rw[zam (show j<l.length by omega)]at this;rw[List.getElem_take]at e;exact this e)
theorem DeclsOk.dcls{l:List Dcl}(h:DeclsOk l):DclsOk l:=fun d hd=>(h.1 d hd).2
theorem ziQ{l:List Dcl}{d:Dcl}(h:findD l s=some d):d∈l∧d.name=s:=by induction l with|nil=>cases h|cons e l ih=>rw[findD]at h;cases hg:findD l s with|some x=>rw[hg]at h;cases h;exact⟨List.mem_cons_of_mem _ (ih hg).1,(ih hg).2⟩|none=>rw[hg]at h;simp only at h;split at h;(·next e2=>cases h;exact⟨List.mem_cons_self ..,e2⟩);·cases h
theorem DeclsOk.vis{l:List Dcl}(h:DeclsOk l):∀s b,visD l s=some b→NmOk s:=fun s b hv=>by obtain⟨d,hd,_⟩:=zby h.dcls hv;obtain⟨h1,rfl⟩:=ziQ hd;exact(h.1 d h1).1
theorem zlA{l:List Prc}(h:(l.map Prc.name).Nodup)(hi:i<l.length):IdxP l (at' l i).name i:=⟨hi,rfl,fun j hj e=>by have:=zhd h hj (by simpa using hi);rw[zcA _ (Nat.lt_trans hj hi),zcA _ hi]at this;exact this e⟩
structure PrcB (ps:List Prc) (q:Prc):Prop where
 name:NmOk q.name
 plen:q.params.length≤8
 params:DeclsOk q.params
 depth:depthN q.body≤80
 size:sizeN q.body≤2000
 body:BOk (prcT ps) (visD q.params) q.body
structure ProgOk (p:Prg):Prop where
 prg:PrgOk p
 vfresh:∀ i,i < p.vars.length→findD (p.vars.take i) (at' p.vars i).name=none
 idx:∀ i,i < p.procs.length→IdxP p.procs (at' p.procs i).name i
 pfresh:∀ i,i < p.procs.length→∀ j,j < (at' p.procs i).params.length→findD ((at' p.procs i).params.take j) (at' (at' p.procs i).params j).name=none
 pvis:∀ i,i < p.procs.length→VisOk p (at' p.procs i).params (at' p.procs i).body
 mvis:VisOk p p.vars p.main
 prej:∀ i,i < p.procs.length→∀ m ∈ preN (at' p.procs i).body,RejOk m
 mrej:∀ m ∈ preN p.main,RejOk m
theorem zmL(h32:p.vars.length≤32)(h64:p.procs.length≤64)(hv:DeclsOk p.vars)(hn:(p.procs.map Prc.name).Nodup)(hp:∀q∈p.procs,PrcB p.procs q)(hm:BOk (prcT p.procs) (visD p.vars) p.main)(hd:depthN p.main≤80)(hs:sizeN p.main≤2000):ProgOk p:=by
 have hP:∀s ks,prcT p.procs s=some ks→NmOk s:=fun s ks h=>by obtain⟨q,hq,_⟩:=zfP h;rw[←hq.at_];exact(hp _ (zaz hq.lt)).name
 have hD:∀q∈p.procs,DclsOk q.params:=fun q hq=>(hp q hq).params.dcls;exact⟨⟨h32,h64,hv.1,fun q hq=>⟨(hp q hq).name,(hp q hq).plen,(hp q hq).params.1,(hp q hq).depth,(hp q hq).size,zgI hP (hp q hq).params.vis (hp q hq).body⟩,hd,hs,zgI hP hv.vis hm⟩,fun i hi=>hv.fresh hi,fun i hi=>zlA hn hi,fun i hi j hj=>(hp _ (zaz hi)).params.fresh hj,fun i hi=>ziv hD (hp _ (zaz hi)).params.dcls (hp _ (zaz hi)).body,ziv hD hv.dcls hm,fun i hi=>ziu (hp _ (zaz hi)).params.vis (hp _ (zaz hi)).body,ziu hv.vis hm⟩
theorem zgw{l:List UInt8}(h0:0<l.length)(h16:l.length≤16)(hl:∀c∈l,97≤c.toNat∧c.toNat≤122)(hk:keyB (bstr l)=false):NmOk (bstr l):=by
 have hs:(bstr l).size=l.length:=by simp[bstr,ByteArray.size]
 have hat:∀j(h:j<(bstr l).size),(bstr l)[j]=l[j]'(by rwa[hs]at h):=fun j h=>by simp[bstr,ByteArray.getElem_eq_getElem_data]
 exact⟨by omega,by omega,fun h=>by rw[hat 0 h];exact hl _ (List.getElem_mem _),fun j hj=>by rw[hat j hj];exact .inl (hl _ (List.getElem_mem _)),hk⟩
theorem zdv{c:UInt8}(h1:97≤c.toNat)(h2:c.toNat≤122):NmOk (bstr [c]):=by
 refine zgw (by simp) (by simp) (fun d hd=>by rw[List.mem_singleton.1 hd];exact⟨h1,h2⟩) ?_;have key:∀x∈keywords,x.size≠1:=by decide
 unfold keyB inB;rw[List.any_eq_false];intro x hx he;simp only[decide_eq_true_eq]at he;subst he;exact key _ hx rfl
theorem zmA:NmOk lcopyS:=zgw (by decide) (by decide) (by decide) (by decide)
theorem zkY:NmOk lspillS:=zgw (by decide) (by decide) (by decide) (by decide)
def noV:Vis:=fun _=>none
theorem zjV(s t:ByteArray):visD [dclN s true,dclN t true]=((noV.put s true).put t true):=by have e0:visD []=noV:=rfl;rw[←e0,←zbx,←zbx];rfl
theorem zhj{y:ByteArray}(hx:V x=some true)(hy:V y=some true)(h0:V xS=none):SOk P V (moveS x y):=by
 have n1:x≠xS:=fun e=>by rw[e,h0]at hx;cases hx
 have n2:y≠xS:=fun e=>by rw[e,h0]at hy;cases hy
 refine .loc xS _ _ _ (zdv (by decide) (by decide)) h0 (.num 0 (by omega)) (.num 0 (by omega)) (fun s hs=>?_);simp only[List.mem_cons,List.not_mem_nil,or_false]at hs;rcases hs with rfl|rfl;·exact .stk 45 x xS (.inr rfl) (by simp[Vis.put,n1,hx]) (by simp[Vis.put])
 ·exact .stk 44 y xS (.inl rfl) (by simp[Vis.put,n2,hy]) (by simp[Vis.put])
theorem zfc{c d:Nd}(hx:V x=some true)(hc:EOk V c)(hl:isLeaf c)(hd:EOk V d)(h:∀s∈l,SOk P V s):SOk P V (loopS (eqS (sizeS x) c) d l):=.from_ c d x l hx hc hl hd h
theorem zdK(hx:V x=some true):EOk V (eqS (sizeS x) (numN 0)):=.op 16 _ _ (by omega) (.stk 5 x (.inr rfl) hx) (.num 0 (by omega))
theorem zko(P:ByteArray→Option (List Bool)):BOk P (visD [dclN aS true,dclN bS true]) copyB:=by
 rw[zjV];refine⟨_,rfl,fun s hs=>?_⟩;rw[List.mem_singleton.1 hs];refine .locs tS _ (zdv (by decide) (by decide)) (by simp[Vis.put,noV,aS,bS,tS,zax]) (fun s hs=>?_);generalize hV:((noV.put aS true).put bS true).put tS true=V;have va:V aS=some true:=by subst hV;simp[Vis.put,noV,aS,bS,tS,zax]
 have vb:V bS=some true:=by subst hV;simp[Vis.put,noV,aS,bS,tS,zax]
 have vt:V tS=some true:=by subst hV;simp[Vis.put,noV,aS,bS,tS,zax]
 have vx:V xS=none:=by subst hV;simp[Vis.put,noV,aS,bS,tS,xS,zax]
 have vy:V yS=none:=by subst hV;simp[Vis.put,noV,aS,bS,tS,yS,zax]
 simp only[List.mem_cons,List.not_mem_nil,or_false]at hs;rcases hs with rfl|rfl;·exact zfc vt (.num 0 (by omega)) (.inl ⟨0,rfl⟩) (zdK va) (fun s hs=>by rw[List.mem_singleton.1 hs];exact zhj va vt vx)
 ·refine zfc va (.num 0 (by omega)) (.inl ⟨0,rfl⟩) (zdK vt) (fun s hs=>?_);rw[List.mem_singleton.1 hs];(have px:∀{s:ByteArray}{b:Bool},V s=some b→(V.put xS false) s=some b:=fun{s b}h=>by(have:s≠xS:=fun e=>by rw[e,vx]at h;cases h);simp[Vis.put,this,h]);(have pxx:(V.put xS false) xS=some false:=by simp[Vis.put]);(have pxy:(V.put xS false) yS=none:=by(have:yS≠xS:=by simp[xS,yS,zax]);simp[Vis.put,this,vy]);refine .loc xS _ _ _ (zdv (by decide) (by decide)) vx (.num 0 (by omega)) (.num 0 (by omega)) (fun s hs=>?_);simp only[List.mem_cons,List.not_mem_nil,or_false]at hs;rcases hs with rfl|rfl|rfl;(·exact .stk 45 tS xS (.inr rfl) (px vt) pxx);(·refine .loc yS _ _ _ (zdv (by decide) (by decide)) pxy (.var xS pxx) (.num 0 (by omega)) (fun s hs=>?_);rw[List.mem_singleton.1 hs];(have nb:bS≠yS:=by simp[bS,yS,zax]);exact .stk 44 bS yS (.inl rfl) (by have:=px vb;simp[Vis.put,nb]at this⊢;exact this) (by simp[Vis.put]));·exact .stk 44 aS xS (.inl rfl) (px va) pxx
theorem zjP(P:ByteArray→Option (List Bool)):BOk P (visD [dclN aS true,dclN gS true]) spillB:=by
 rw[zjV];refine⟨_,rfl,fun s hs=>?_⟩;rw[List.mem_singleton.1 hs];generalize hV:(noV.put aS true).put gS true=V;have va:V aS=some true:=by subst hV;simp[Vis.put,noV,aS,gS,zax]
 have vg:V gS=some true:=by subst hV;simp[Vis.put,noV,aS,gS,zax]
 have vn:V nS=none:=by subst hV;simp[Vis.put,noV,aS,gS,nS,zax]
 have vx:V xS=none:=by subst hV;simp[Vis.put,noV,aS,gS,xS,zax]
 refine .loc nS _ _ _ (zdv (by decide) (by decide)) vn (.stk 5 aS (.inr rfl) va) (.num 0 (by omega)) (fun s hs=>?_);have pa:(V.put nS false) aS=some true:=by(have:aS≠nS:=by simp[aS,nS,zax]);simp[Vis.put,this,va]
 have pg:(V.put nS false) gS=some true:=by(have:gS≠nS:=by simp[gS,nS,zax]);simp[Vis.put,this,vg]
 have px:(V.put nS false) xS=none:=by(have:xS≠nS:=by simp[xS,nS,zax]);simp[Vis.put,this,vx]
 have pn:(V.put nS false) nS=some false:=by simp[Vis.put]
 simp only[List.mem_cons,List.not_mem_nil,or_false]at hs;rcases hs with rfl|rfl;·exact zfc pa (.var nS pn) (.inr ⟨nS,rfl⟩) (zdK pa) (fun s hs=>by rw[List.mem_singleton.1 hs];exact zhj pa pg px)
 ·exact .stk 44 gS nS (.inl rfl) pg pn
theorem zkT(ps:List Prc):∀q∈libPrcs,PrcB ps q:=by
 intro q hq;simp only[libPrcs,List.mem_cons,List.not_mem_nil,or_false]at hq;have two:∀s t:ByteArray,NmOk s→NmOk t→s≠t→DeclsOk [dclN s true,dclN t true]:=fun s t hs ht hne=>⟨fun d hd=>by simp only[List.mem_cons,List.not_mem_nil,or_false]at hd;rcases hd with rfl|rfl;(·exact⟨hs,.inr rfl⟩);·exact⟨ht,.inr rfl⟩,by simp[dclN,hne]⟩;have na:NmOk aS:=zdv (by decide) (by decide);have nb:NmOk bS:=zdv (by decide) (by decide);have ng:NmOk gS:=zdv (by decide) (by decide);rcases hq with rfl|rfl;·exact⟨zmA,by decide,two aS bS na nb (by simp[aS,bS,zax]),by decide,by decide,zko _⟩
 ·exact⟨zkY,by decide,two aS gS na ng (by simp[aS,gS,zax]),by decide,by decide,zjP _⟩
theorem zke{α:Type} [Inhabited α]{l:List α}{k:Nat}(h:j<k):at' (l.take k) j=at' l j:=by simp[at',List.getD_eq_getElem?_getD,List.getElem?_take,h]
theorem RowsAt.take{α:Type} [Inhabited α]{E:Elem α}{n c:Nat}{l:List α}(h:RowsAt E A w (.slice a n c) l){k:Nat}(hk:k≤l.length):RowsAt E A w (.slice a k c) (l.take k):=by
 obtain⟨cs,⟨h1,a',c',e,h2,h3,h4⟩,h5⟩:=h;simp only[Value.slice.injEq]at e;obtain⟨rfl,rfl,rfl⟩:=e;have hl:(l.take k).length=k:=by simp;omega
 refine⟨cs,⟨by omega,a,c,by rw[hl],by omega,h3,fun h0=>?_⟩,fun j hj=>?_⟩;·obtain⟨b,off,e1,e2,e3,e4⟩:=h4 (by omega);exact⟨b,off,e1,e2,e3,fun j hj=>e4 j (by omega)⟩
 ·rw[zke (by omega)];exact h5 j (by omega)
theorem RowsAt.vcap{α:Type} [Inhabited α]{E:Elem α}{n c:Nat}{l:List α}(h:RowsAt E A w (.slice a n c) l):l.length≤c:=by obtain⟨cs,⟨h1,a',c',e,h2,h3,h4⟩,h5⟩:=h;simp only[Value.slice.injEq]at e;obtain⟨rfl,rfl,rfl⟩:=e;exact h2
theorem cells3'{b e:Nat}{v0 v1 v2:Value}(h:w.heap[b]?=some (.cells #[v0,v1,v2] e (0,0))):w.cell? ⟨b,0,none⟩=some v0∧w.cell? ⟨b,1,none⟩=some v1∧w.cell? ⟨b,2,none⟩=some v2:=⟨zae h 0 rfl,zae h 1 rfl,zae h 2 rfl⟩
def NilB(w:World)(e:Ending)(w':World):Prop:=e=.returned (.slice none 0 0)∧Below w.heap.size w w'
theorem ziy(p:Prg)(hok:ProgOk p)(va:Option Addr)(vc:Nat)(pa:Option Addr)(pc:Nat)(ka:Option Addr)(kc:Nat)(w:World)(hv:PrgAt Any w va vc pa pc ka kc p):Calls Tryz.prog 126 #[PrgV va vc pa pc ka kc p] w (NilB w):=by
 obtain⟨o1,o2,o3,o4,o5,o6,_,_⟩:=hok;have hA:Below w.heap.size w (w.alloc (bxP va vc pa pc ka kc p)):=zaa (Below.refl _ _);have HVA:=Lib.hid (zey p o1 va vc pa pc ka kc Any _ (hv.stays (Stays.of_below hA)));have hbx:=zag w (bxP va vc pa pc ka kc p);obtain⟨x0,x1,x2,x3,x4,x5⟩:=cells6' hbx;have HX:=Lib.hid hbx;have HA:=Lib.hid hA;have HPR:=Lib.hid hv;have h2:=o1.vlen;have h3:=o1.plen;have HOK:=Lib.hid o1;have HVF:=Lib.hid o2;have HID:=Lib.hid o3;have HPF:=Lib.hid o4;have HPV:=Lib.hid o5;have HMV:=Lib.hid o6;clear o1 o2 o3 o4 o5 o6 hv hA hbx;unfold PrgV;go_enter Tryz.func126,Tryz.ntmps126;go_wp2_with fail;refine HVA.out.mono ?_;rintro e w1⟨rfl,hb1⟩;have hb01:=HA.out.trans (hb1.mono HA.out.size);have hx1:=zac hb1 HX.out;have hsz:w.heap.size<w1.heap.size:=by have:=hb1.size;simp at this;omega
 have HB01:=Lib.hid hb01;have hA2:Below w1.heap.size w1 ((w1.alloc (.cells #[.slice none 0 0] 167)).alloc (.cells #[.func (.func 155) #[] #[.pointer (some ⟨w1.heap.size,0,none⟩)]] 199)):=zaa (zaa (Below.refl _ _));have hF:=zaq w1 (.cells #[.slice none 0 0] 167) (.cells #[.func (.func 155) #[] #[.pointer (some ⟨w1.heap.size,0,none⟩)]] 199);have hR:=zan w1 (.cells #[.slice none 0 0] 167) (.cells #[.func (.func 155) #[] #[.pointer (some ⟨w1.heap.size,0,none⟩)]] 199);have hx2:=zac hA2 hx1;have HP1:=Lib.hid hx1;clear x0 x1 x2 x3 x4 x5 hb1 HVA;obtain⟨x0,x1,x2,x3,x4,x5⟩:=cells6' hx1;clear hx1;go_upto_region 5 with fail;clear x0 x1 x2 x3 x4 x5;generalize hW:((w1.alloc (.cells #[.slice none 0 0] 167)).alloc (.cells #[.func (.func 155) #[] #[.pointer (some ⟨w1.heap.size,0,none⟩)]] 199))=W at*;have HW:Hid (∀w',Below W.heap.size W w'→(w'.cell? ⟨w.heap.size,0,none⟩=some (.slice va p.vars.length vc)∧w'.cell? ⟨w.heap.size,1,none⟩=some (.slice pa p.procs.length pc)∧w'.cell? ⟨w.heap.size,2,none⟩=some (.int .u8 p.main.kind)∧w'.cell? ⟨w.heap.size,3,none⟩=some (.int .i64 p.main.num)∧w'.cell? ⟨w.heap.size,4,none⟩=some (.string p.main.name)∧w'.cell? ⟨w.heap.size,5,none⟩=some (.slice ka p.main.kids.length kc))∧(w'.cell? ⟨w1.heap.size+1,0,none⟩=some (.func (.func 155) #[] #[.pointer (some ⟨w1.heap.size,0,none⟩)]))∧w'.cell? ⟨w1.heap.size,0,none⟩=some (.slice none 0 0)):=Lib.hid (fun w' h=>⟨cells6' (zac h hx2),zae (zac h hR) 0 rfl,zae (zac h hF) 0 rfl⟩);have HRB:Hid (∀w',Below W.heap.size W w'→RepBox w' (w1.heap.size+1) w1.heap.size):=Lib.hid (fun w' h=>zac h hR);have HXB:Hid (∀w',Below W.heap.size W w'→w'.heap[w.heap.size]?=some (bxP va vc pa pc ka kc p)):=Lib.hid (fun w' h=>zac h hx2);have HFW:Hid (∀w',Below W.heap.size W w'→Below w.heap.size w w'):=Lib.hid (fun w' h=>(hb01.trans (hA2.mono hb01.size)).trans (h.mono (hb01.trans (hA2.mono hb01.size)).size));obtain⟨⟨x0,x1,x2,x3,x4,x5⟩,xr,xf⟩:=HW.out W (Below.refl _ _);clear hW hA2 hF hR hx2 hb01;go_wp2;go_loopw[18](fun i wr=>∃k:Nat,k≤p.vars.length∧i=.int .i64 k∧Below W.heap.size W wr)(fun i _=>p.vars.length-(intOf i).toNat);case atStart=>exact⟨0,Nat.zero_le _,rfl,Below.refl _ _⟩
 case round=>obtain⟨k,hkk,rfl,hbl⟩:=hrel;have HBL:=Lib.hid hbl;have HBW:=Lib.hid (HFW.out _ hbl);clear x0 x1 x2 x3 x4 x5 xr xf;by_cases hlt:k<p.vars.length;(·have hrow:=HPR.out.hv.stays (Stays.of_below HBW.out) (A':=Any);have hcap:=hrow.vcap;obtain⟨b,off,he,hb,c0,c1,c2⟩:=zay hrow hlt;subst he;(have i0:(0:Int)≤(k:Int):=by omega);(have i1:(k:Int)<(p.vars.length:Int):=by omega);(have i2:(k:Int)≤(vc:Int):=by omega);(have i3:¬vc=0:=by omega);(have i4:k≤vc:=by omega);have hA3:Below wr.heap.size wr (wr.alloc (.cells #[.string (at' p.vars k).name,.int .u8 (at' p.vars k).kind,.int .i64 0] 54)):=zaa (Below.refl _ _);have hk3:=zag wr (.cells #[.string (at' p.vars k).name,.int .u8 (at' p.vars k).kind,.int .i64 0] 54);go_upto_region 8 with fail;generalize hX:(wr.alloc (.cells #[.string (at' p.vars k).name,.int .u8 (at' p.vars k).kind,.int .i64 0] 54))=X at*;have HBX:=Lib.hid (hbl.trans (hA3.mono hbl.size));have HFX:Hid (∀w',Below X.heap.size X w'→Below W.heap.size W w'):=Lib.hid (fun w' h=>HBX.out.trans (h.mono HBX.out.size));have HX3:Hid (∀w',Below X.heap.size X w'→((w'.cell? ⟨w.heap.size,0,none⟩=some (.slice (some ⟨b,off,none⟩) p.vars.length vc)∧w'.cell? ⟨w.heap.size,1,none⟩=some (.slice pa p.procs.length pc)∧w'.cell? ⟨w.heap.size,2,none⟩=some (.int .u8 p.main.kind)∧w'.cell? ⟨w.heap.size,3,none⟩=some (.int .i64 p.main.num)∧w'.cell? ⟨w.heap.size,4,none⟩=some (.string p.main.name)∧w'.cell? ⟨w.heap.size,5,none⟩=some (.slice ka p.main.kids.length kc))∧(w'.cell? ⟨w1.heap.size+1,0,none⟩=some (.func (.func 155) #[] #[.pointer (some ⟨w1.heap.size,0,none⟩)])))∧(w'.cell? ⟨wr.heap.size,0,none⟩=some (.string (at' p.vars k).name)∧w'.cell? ⟨wr.heap.size,1,none⟩=some (.int .u8 (at' p.vars k).kind)∧w'.cell? ⟨wr.heap.size,2,none⟩=some (.int .i64 0))):=Lib.hid (fun w' h=>⟨⟨(HW.out w' (HFX.out _ h)).1,(HW.out w' (HFX.out _ h)).2.1⟩,cells3' (zac h hk3)⟩);have HFR:Hid (∀w',Below X.heap.size X w'→Calls Tryz.prog 156 #[.slice (some ⟨b,off,none⟩) k vc,.string (at' p.vars k).name] w' fun e w2=>e=.returned (.int .i64 0)∧Below w'.heap.size w' w2):=Lib.hid (fun w' h=>by have hr:=(HPR.out.hv.stays (A':=Any) (Stays.of_below (HFW.out _ (HFX.out _ h)))).take (k:=k) (by omega);(have hl:(p.vars.take k).length=k:=by simp;omega);have:=zdj (p.vars.take k) (at' p.vars k).name (some ⟨b,off,none⟩) vc Any w' (by rw[hl];exact hr) (HVF.out k hlt);rwa[hl]at this);clear hbl hA3 hk3 hX hrow hcap;go_region_held3(fun w'=>((w'.cell? ⟨w.heap.size,0,none⟩=some (.slice (some ⟨b,off,none⟩) p.vars.length vc)∧w'.cell? ⟨w.heap.size,1,none⟩=some (.slice pa p.procs.length pc)∧w'.cell? ⟨w.heap.size,2,none⟩=some (.int .u8 p.main.kind)∧w'.cell? ⟨w.heap.size,3,none⟩=some (.int .i64 p.main.num)∧w'.cell? ⟨w.heap.size,4,none⟩=some (.string p.main.name)∧w'.cell? ⟨w.heap.size,5,none⟩=some (.slice ka p.main.kids.length kc))∧(w'.cell? ⟨w1.heap.size+1,0,none⟩=some (.func (.func 155) #[] #[.pointer (some ⟨w1.heap.size,0,none⟩)])))∧(w'.cell? ⟨wr.heap.size,0,none⟩=some (.string (at' p.vars k).name)∧w'.cell? ⟨wr.heap.size,1,none⟩=some (.int .u8 (at' p.vars k).kind)∧w'.cell? ⟨wr.heap.size,2,none⟩=some (.int .i64 0)))(with_reducible exact HX3.out _ (by(repeat(with_reducible first|exact Below.refl _ _|refine zad ?_|refine zaa ?_|(apply zab;focus assumption)))))(first|(go_at_call 156;(with_reducible refine(HFR.out _ (by(repeat(with_reducible first|exact Below.refl _ _|refine zad ?_|refine zaa ?_|(apply zab;focus assumption))))).mono ?_);rintro e w4⟨rfl,hb4⟩)|(go_at_call 155;(with_reducible refine(report1 _ _ _ _ _).mono ?_);rintro e w5⟨rfl,hb5⟩));all_goals have HB5:Hid (Below X.heap.size X w5):=Lib.hid (by(repeat(with_reducible first|exact Below.refl _ _|refine zad ?_|refine zaa ?_|(apply zab;focus assumption))));clear hb4 hb5;go_wp2;go_roundw;(case rel=>exact⟨k+1,by omega,by go_num,HBX.out.trans (HB5.out.mono HBX.out.size)⟩);case measure=>simp[intOf];omega);·(obtain rfl:k=p.vars.length:=by omega);(have hlt':¬(p.vars.length:Int)<(p.vars.length:Int):=by omega);obtain⟨⟨x0,x1,x2,x3,x4,x5⟩,xr,xf⟩:=HW.out wr hbl;rename_i wr1 _;clear hbl HBW;go_wp2;go_loopw[40](fun i wr=>∃k:Nat,k≤p.procs.length∧i=.int .i64 k∧Below W.heap.size W wr)(fun i _=>p.procs.length-(intOf i).toNat);(case atStart=>exact⟨0,Nat.zero_le _,rfl,HBL.out⟩);case round=>obtain⟨k,hkk,rfl,hbl⟩:=hrel;have HBL2:=Lib.hid hbl;have HBW:=Lib.hid (HFW.out _ hbl);clear x0 x1 x2 x3 x4 x5 xr xf HBL;by_cases hlt:k<p.procs.length;(·generalize wr=wq at*;obtain⟨b,off,qa,qc,ja,jc,he,hb,_,_,_,c0,c1,c2,c3,c4,c5,hr,hn,hsz⟩:=zcF (HPR.out.hp.stays (Stays.of_below HBW.out) (A':=Any)) hlt;subst he;(have i0:(0:Int)≤(k:Int):=by omega);(have i1:(k:Int)<(p.procs.length:Int):=by omega);have hA3:Below wq.heap.size wq ((wq.alloc (.cells #[.int .i64 k] 3)).alloc (.cells #[.string (at' p.procs k).name,.slice qa (at' p.procs k).params.length qc,.int .u8 (at' p.procs k).body.kind,.int .i64 (at' p.procs k).body.num,.string (at' p.procs k).body.name,.slice ja (at' p.procs k).body.kids.length jc] 42)):=zaa (zaa (Below.refl _ _));have hi3:=zaq wq (.cells #[.int .i64 k] 3) (.cells #[.string (at' p.procs k).name,.slice qa (at' p.procs k).params.length qc,.int .u8 (at' p.procs k).body.kind,.int .i64 (at' p.procs k).body.num,.string (at' p.procs k).body.name,.slice ja (at' p.procs k).body.kids.length jc] 42);have hq3:=zan wq (.cells #[.int .i64 k] 3) (.cells #[.string (at' p.procs k).name,.slice qa (at' p.procs k).params.length qc,.int .u8 (at' p.procs k).body.kind,.int .i64 (at' p.procs k).body.num,.string (at' p.procs k).body.name,.slice ja (at' p.procs k).body.kids.length jc] 42);have HQR:=Lib.hid hr;have HQN:=Lib.hid hn;clear hr hn;go_upto_region 13 with fail;generalize((wq.alloc (.cells #[.int .i64 k] 3)).alloc (.cells #[.string (at' p.procs k).name,.slice qa (at' p.procs k).params.length qc,.int .u8 (at' p.procs k).body.kind,.int .i64 (at' p.procs k).body.num,.string (at' p.procs k).body.name,.slice ja (at' p.procs k).body.kids.length jc] 42))=X at*;have HBX:=Lib.hid (hbl.trans (hA3.mono hbl.size));have HWX:=Lib.hid hA3;have HFX:Hid (∀w',Below X.heap.size X w'→Below W.heap.size W w'):=Lib.hid (fun w' h=>HBX.out.trans (h.mono HBX.out.size));have HX3:Hid (∀w',Below X.heap.size X w'→((w'.cell? ⟨w.heap.size,0,none⟩=some (.slice va p.vars.length vc)∧w'.cell? ⟨w.heap.size,1,none⟩=some (.slice (some ⟨b,off,none⟩) p.procs.length pc)∧w'.cell? ⟨w.heap.size,2,none⟩=some (.int .u8 p.main.kind)∧w'.cell? ⟨w.heap.size,3,none⟩=some (.int .i64 p.main.num)∧w'.cell? ⟨w.heap.size,4,none⟩=some (.string p.main.name)∧w'.cell? ⟨w.heap.size,5,none⟩=some (.slice ka p.main.kids.length kc))∧(w'.cell? ⟨w1.heap.size+1,0,none⟩=some (.func (.func 155) #[] #[.pointer (some ⟨w1.heap.size,0,none⟩)])))∧w'.cell? ⟨wq.heap.size,0,none⟩=some (.int .i64 k)∧(w'.cell? ⟨wq.heap.size+1,0,none⟩=some (.string (at' p.procs k).name)∧w'.cell? ⟨wq.heap.size+1,1,none⟩=some (.slice qa (at' p.procs k).params.length qc)∧w'.cell? ⟨wq.heap.size+1,2,none⟩=some (.int .u8 (at' p.procs k).body.kind)∧w'.cell? ⟨wq.heap.size+1,3,none⟩=some (.int .i64 (at' p.procs k).body.num)∧w'.cell? ⟨wq.heap.size+1,4,none⟩=some (.string (at' p.procs k).body.name)∧w'.cell? ⟨wq.heap.size+1,5,none⟩=some (.slice ja (at' p.procs k).body.kids.length jc))):=Lib.hid (fun w' h=>⟨⟨(HW.out w' (HFX.out _ h)).1,(HW.out w' (HFX.out _ h)).2.1⟩,zae (zac h hi3) 0 rfl,cells6' (zac h hq3)⟩);have HIB:Hid (∀w',Below X.heap.size X w'→w'.heap[wq.heap.size]?=some (.cells #[.int .i64 k] 3 (0,0))):=Lib.hid (fun w' h=>zac h hi3);have HPC:Hid (∀w',Below X.heap.size X w'→Calls Tryz.prog 157 #[(.agg #[.slice va p.vars.length vc,.slice (some ⟨b,off,none⟩) p.procs.length pc,.int .u8 p.main.kind,.int .i64 p.main.num,.string p.main.name,.slice ka p.main.kids.length kc]),.string (at' p.procs k).name] w' fun e w2=>e=.returned (.int .i64 k)∧Below w'.heap.size w' w2):=Lib.hid (fun w' h=>zeX p (at' p.procs k).name k va vc (some ⟨b,off,none⟩) pc ka kc Any w' (HPR.out.stays (Stays.of_below (HFW.out _ (HFX.out _ h)))) (HID.out k hlt));(have dk:decide ((k:Int)<(k:Int))=false:=by simp);clear hbl hA3 hi3 hq3;go_region_held3(fun w'=>((w'.cell? ⟨w.heap.size,0,none⟩=some (.slice va p.vars.length vc)∧w'.cell? ⟨w.heap.size,1,none⟩=some (.slice (some ⟨b,off,none⟩) p.procs.length pc)∧w'.cell? ⟨w.heap.size,2,none⟩=some (.int .u8 p.main.kind)∧w'.cell? ⟨w.heap.size,3,none⟩=some (.int .i64 p.main.num)∧w'.cell? ⟨w.heap.size,4,none⟩=some (.string p.main.name)∧w'.cell? ⟨w.heap.size,5,none⟩=some (.slice ka p.main.kids.length kc))∧(w'.cell? ⟨w1.heap.size+1,0,none⟩=some (.func (.func 155) #[] #[.pointer (some ⟨w1.heap.size,0,none⟩)])))∧w'.cell? ⟨wq.heap.size,0,none⟩=some (.int .i64 k)∧(w'.cell? ⟨wq.heap.size+1,0,none⟩=some (.string (at' p.procs k).name)∧w'.cell? ⟨wq.heap.size+1,1,none⟩=some (.slice qa (at' p.procs k).params.length qc)∧w'.cell? ⟨wq.heap.size+1,2,none⟩=some (.int .u8 (at' p.procs k).body.kind)∧w'.cell? ⟨wq.heap.size+1,3,none⟩=some (.int .i64 (at' p.procs k).body.num)∧w'.cell? ⟨wq.heap.size+1,4,none⟩=some (.string (at' p.procs k).body.name)∧w'.cell? ⟨wq.heap.size+1,5,none⟩=some (.slice ja (at' p.procs k).body.kids.length jc)))(with_reducible exact HX3.out _ (by(repeat(with_reducible first|exact Below.refl _ _|refine zad ?_|refine zaa ?_|(apply zab;focus assumption)))))(first|(go_at_call 157;(with_reducible refine(HPC.out _ (by(repeat(with_reducible first|exact Below.refl _ _|refine zad ?_|refine zaa ?_|(apply zab;focus assumption))))).mono ?_);rintro e w4⟨rfl,hb4⟩));have HB4:Hid (Below X.heap.size X w4):=Lib.hid (by(repeat(with_reducible first|exact Below.refl _ _|refine zad ?_|refine zaa ?_|(apply zab;focus assumption))));obtain⟨⟨⟨x0,x1,x2,x3,x4,x5⟩,xr⟩,xi,q0,q1,q2,q3,q4,q5⟩:=HX3.out w4 HB4.out;have hpl8:=(HOK.out.procs _ (zaz hlt)).plen;clear hb4;go_wp2;go_loopw[59](fun i wr=>∃j:Nat,j≤(at' p.procs k).params.length∧i=.int .i64 j∧Below X.heap.size X wr)(fun i _=>(at' p.procs k).params.length-(intOf i).toNat);(case atStart=>exact⟨0,Nat.zero_le _,rfl,HB4.out⟩);case round=>obtain⟨j,hjj,rfl,hbl⟩:=hrel;have HBJ:=Lib.hid hbl;clear x0 x1 x2 x3 x4 x5 xr xi q0 q1 q2 q3 q4 q5 HB4;by_cases hltj:j<(at' p.procs k).params.length;(·have hrow:=HQR.out.stays (Stays.of_below (HWX.out.trans (hbl.mono HWX.out.size))) (A':=Any);have hcap:=hrow.vcap;obtain⟨bq,oq,he,hb,d0,d1,d2⟩:=zay hrow hltj;subst he;(have j0:(0:Int)≤(j:Int):=by omega);(have j1:(j:Int)<((at' p.procs k).params.length:Int):=by omega);(have j2:(j:Int)≤(qc:Int):=by omega);(have j3:¬qc=0:=by omega);(have j4:j≤qc:=by omega);have hA3:Below wr.heap.size wr (wr.alloc (.cells #[.string (at' (at' p.procs k).params j).name,.int .u8 (at' (at' p.procs k).params j).kind,.int .i64 0] 54)):=zaa (Below.refl _ _);have hk3:=zag wr (.cells #[.string (at' (at' p.procs k).params j).name,.int .u8 (at' (at' p.procs k).params j).kind,.int .i64 0] 54);go_upto_region 18 with fail;generalize hY:(wr.alloc (.cells #[.string (at' (at' p.procs k).params j).name,.int .u8 (at' (at' p.procs k).params j).kind,.int .i64 0] 54))=Y at*;have HBY:=Lib.hid (hbl.trans (hA3.mono hbl.size));have HFY:Hid (∀w',Below Y.heap.size Y w'→Below X.heap.size X w'):=Lib.hid (fun w' h=>HBY.out.trans (h.mono HBY.out.size));have HY3:Hid (∀w',Below Y.heap.size Y w'→(((w'.cell? ⟨w.heap.size,0,none⟩=some (.slice va p.vars.length vc)∧w'.cell? ⟨w.heap.size,1,none⟩=some (.slice (some ⟨b,off,none⟩) p.procs.length pc)∧w'.cell? ⟨w.heap.size,2,none⟩=some (.int .u8 p.main.kind)∧w'.cell? ⟨w.heap.size,3,none⟩=some (.int .i64 p.main.num)∧w'.cell? ⟨w.heap.size,4,none⟩=some (.string p.main.name)∧w'.cell? ⟨w.heap.size,5,none⟩=some (.slice ka p.main.kids.length kc))∧(w'.cell? ⟨w1.heap.size+1,0,none⟩=some (.func (.func 155) #[] #[.pointer (some ⟨w1.heap.size,0,none⟩)])))∧w'.cell? ⟨wq.heap.size,0,none⟩=some (.int .i64 k)∧(w'.cell? ⟨wq.heap.size+1,0,none⟩=some (.string (at' p.procs k).name)∧w'.cell? ⟨wq.heap.size+1,1,none⟩=some (.slice (some ⟨bq,oq,none⟩) (at' p.procs k).params.length qc)∧w'.cell? ⟨wq.heap.size+1,2,none⟩=some (.int .u8 (at' p.procs k).body.kind)∧w'.cell? ⟨wq.heap.size+1,3,none⟩=some (.int .i64 (at' p.procs k).body.num)∧w'.cell? ⟨wq.heap.size+1,4,none⟩=some (.string (at' p.procs k).body.name)∧w'.cell? ⟨wq.heap.size+1,5,none⟩=some (.slice ja (at' p.procs k).body.kids.length jc)))∧(w'.cell? ⟨wr.heap.size,0,none⟩=some (.string (at' (at' p.procs k).params j).name)∧w'.cell? ⟨wr.heap.size,1,none⟩=some (.int .u8 (at' (at' p.procs k).params j).kind)∧w'.cell? ⟨wr.heap.size,2,none⟩=some (.int .i64 0))):=Lib.hid (fun w' h=>⟨HX3.out w' (HFY.out _ h),cells3' (zac h hk3)⟩);have HFR:Hid (∀w',Below Y.heap.size Y w'→Calls Tryz.prog 156 #[.slice (some ⟨bq,oq,none⟩) j qc,.string (at' (at' p.procs k).params j).name] w' fun e w2=>e=.returned (.int .i64 0)∧Below w'.heap.size w' w2):=Lib.hid (fun w' h=>by have hb:=HFY.out _ h;have hr:=(HQR.out.stays (A':=Any) (Stays.of_below (HWX.out.trans (hb.mono HWX.out.size)))).take (k:=j) (by omega);(have hl:((at' p.procs k).params.take j).length=j:=by simp;omega);have:=zdj ((at' p.procs k).params.take j) (at' (at' p.procs k).params j).name (some ⟨bq,oq,none⟩) qc Any w' (by rw[hl];exact hr) (HPF.out k hlt j hltj);rwa[hl]at this);clear hbl hA3 hk3 hY hrow hcap;go_region_held3(fun w'=>(((w'.cell? ⟨w.heap.size,0,none⟩=some (.slice va p.vars.length vc)∧w'.cell? ⟨w.heap.size,1,none⟩=some (.slice (some ⟨b,off,none⟩) p.procs.length pc)∧w'.cell? ⟨w.heap.size,2,none⟩=some (.int .u8 p.main.kind)∧w'.cell? ⟨w.heap.size,3,none⟩=some (.int .i64 p.main.num)∧w'.cell? ⟨w.heap.size,4,none⟩=some (.string p.main.name)∧w'.cell? ⟨w.heap.size,5,none⟩=some (.slice ka p.main.kids.length kc))∧(w'.cell? ⟨w1.heap.size+1,0,none⟩=some (.func (.func 155) #[] #[.pointer (some ⟨w1.heap.size,0,none⟩)])))∧w'.cell? ⟨wq.heap.size,0,none⟩=some (.int .i64 k)∧(w'.cell? ⟨wq.heap.size+1,0,none⟩=some (.string (at' p.procs k).name)∧w'.cell? ⟨wq.heap.size+1,1,none⟩=some (.slice (some ⟨bq,oq,none⟩) (at' p.procs k).params.length qc)∧w'.cell? ⟨wq.heap.size+1,2,none⟩=some (.int .u8 (at' p.procs k).body.kind)∧w'.cell? ⟨wq.heap.size+1,3,none⟩=some (.int .i64 (at' p.procs k).body.num)∧w'.cell? ⟨wq.heap.size+1,4,none⟩=some (.string (at' p.procs k).body.name)∧w'.cell? ⟨wq.heap.size+1,5,none⟩=some (.slice ja (at' p.procs k).body.kids.length jc)))∧(w'.cell? ⟨wr.heap.size,0,none⟩=some (.string (at' (at' p.procs k).params j).name)∧w'.cell? ⟨wr.heap.size,1,none⟩=some (.int .u8 (at' (at' p.procs k).params j).kind)∧w'.cell? ⟨wr.heap.size,2,none⟩=some (.int .i64 0)))(with_reducible exact HY3.out _ (by(repeat(with_reducible first|exact Below.refl _ _|refine zad ?_|refine zaa ?_|(apply zab;focus assumption)))))(first|(go_at_call 156;(with_reducible refine(HFR.out _ (by(repeat(with_reducible first|exact Below.refl _ _|refine zad ?_|refine zaa ?_|(apply zab;focus assumption))))).mono ?_);rintro e w4⟨rfl,hb4⟩)|(go_at_call 155;(with_reducible refine(report1 _ _ _ _ _).mono ?_);rintro e w5⟨rfl,hb5⟩));all_goals have HB5:Hid (Below Y.heap.size Y w5):=Lib.hid (by(repeat(with_reducible first|exact Below.refl _ _|refine zad ?_|refine zaa ?_|(apply zab;focus assumption))));clear hb4 hb5;go_wp2;go_roundw;(case rel=>exact⟨j+1,by omega,by go_num,HBY.out.trans (HB5.out.mono HBY.out.size)⟩);case measure=>simp[intOf];omega);·(obtain rfl:j=(at' p.procs k).params.length:=by omega);(have hlt':¬((at' p.procs k).params.length:Int)<((at' p.procs k).params.length:Int):=by omega);obtain⟨⟨⟨x0,x1,x2,x3,x4,x5⟩,xr⟩,xi,q0,q1,q2,q3,q4,q5⟩:=HX3.out wr hbl;have hbw:=HFW.out _ (HFX.out _ hbl);have hsz:=(HOK.out.procs _ (zaz hlt)).size;have HVC:=Lib.hid (zeh p va vc (some ⟨b,off,none⟩) pc ka kc _ (at' p.procs k).body (at' p.procs k).params [] _ qa qc none 0 _ Any wr (Nat.le_refl _) (by simp;omega) (by omega) (HPV.out k hlt) (HPR.out.stays (Stays.of_below hbw)) (HQN.out.stays (A':=Any) (Stays.of_below (HWX.out.trans (hbl.mono HWX.out.size)))) (HQR.out.stays (A':=Any) (Stays.of_below (HWX.out.trans (hbl.mono HWX.out.size)))) (RowsAt.nil _ _ _) (zia k (w1.heap.size+1) w1.heap.size wq.heap.size wr (HRB.out wr (HFX.out _ hbl)) (HIB.out wr hbl)));clear hbl hbw hsz;go_wp2_with(first|(go_at_call 158;refine HVC.out.mono ?_;rintro e w5⟨rfl,hb5⟩));have HB5:Hid (Below wr.heap.size wr w5):=Lib.hid hb5;clear hb5 x0 x1 x2 x3 x4 x5 xr xi q0 q1 q2 q3 q4 q5;go_wp2;go_roundw;(case rel=>exact⟨k+1,by omega,by go_num,HFX.out _ (HBJ.out.trans (HB5.out.mono HBJ.out.size))⟩);case measure=>simp[intOf];omega);·(obtain rfl:k=p.procs.length:=by omega);(have hlt':¬(p.procs.length:Int)<(p.procs.length:Int):=by omega);obtain⟨⟨x0,x1,x2,x3,x4,x5⟩,xr,xf⟩:=HW.out wr hbl;have hds:=HOK.out.size;have hvl:=HOK.out.vlen;have HVC:=Lib.hid (zeh p va vc pa pc ka kc _ p.main p.vars [] _ va vc none 0 _ Any wr (Nat.le_refl _) (by simp;omega) (by omega) HMV.out (HPR.out.stays (Stays.of_below HBW.out)) (HPR.out.hm.stays (A':=Any) (Stays.of_below HBW.out)) (HPR.out.hv.stays (A':=Any) (Stays.of_below HBW.out)) (RowsAt.nil _ _ _) (zib p va vc pa pc ka kc (w1.heap.size+1) w1.heap.size w.heap.size wr (HRB.out wr hbl) (HXB.out wr hbl)));clear hbl hds hvl;go_wp2_with(first|(go_at_call 158;refine HVC.out.mono ?_;rintro e w5⟨rfl,hb5⟩;have xf5:=(HW.out w5 (HBL2.out.trans (hb5.mono HBL2.out.size))).2.2));have HB5:Hid (Below w.heap.size w w5):=Lib.hid (HBW.out.trans (hb5.mono HBW.out.size));clear hb5 x0 x1 x2 x3 x4 x5 xr xf;go_wp2;go_ret;exact⟨rfl,HB5.out⟩
theorem zhU(n:Nat)(hn:n≤1000):∃Z:Array Value,(∀w0:World,(Instr.makeSlice 57 (.int .i64 n) (.int .i64 n)).run Tryz.prog w0=.ok (.slice (some ⟨w0.heap.size,0,none⟩) n n) (w0.alloc (.cells Z 3)))∧∀(w:World)(g:Nat),w.heap[g]?=some (.cells Z 3 (0,0))→Own w 0 3 (.slice (some ⟨g,0,none⟩) n n) (List.replicate n 0):=by
 obtain⟨i,hi,hz,hsize,hby⟩:=info_parts TIntI.inf;refine⟨madeCells (Value.int .i64 0).cells (n*1),fun w0=>?_,fun w g h=>⟨by simp;omega,fun x hx=>by simp at hx;omega,?_⟩⟩;·have h:=run_makeSlice (P:=Tryz.prog) w0 57 3 i _ Tryz.underlying57 hi hz .i64 .i64 (n:Int) (n:Int) (by omega) (by omega) (by rw[hsize];simp;omega) (by rw[hby];omega) (by omega);rw[hsize]at h;simpa using h
 ·(have e1:(List.replicate n 0).map (Value.int .i64)=(madeCells (Value.int .i64 0).cells (n*1)).toList:=by rw[Nat.mul_one];show _=(madeCells #[.int .i64 0] n).toList;rw[toList_madeCells_one];simp);(have hs:(madeCells (Value.int .i64 0).cells (n*1)).size=n:=by rw[size_madeCells];simp[Value.cells]);rw[e1,List.length_replicate];refine⟨by rw[Array.length_toList];omega,.inr ⟨g,n,_,rfl,Nat.zero_le _,h,Nat.le_refl _,by unfold maxLen;omega,by omega,?_⟩⟩;rw[List.take_of_length_le (by rw[Array.length_toList];omega)]
def RunCut(p:Prg)(va pa ka:Option Addr)(vc pc kc T:Nat)(F:Int)(Z:Array Value)(w3:World)(G:Value)(wx:World):Prop:=∃gG R E,G=.pointer (some ⟨gG,0,none⟩)∧wx.heap[gG]?=some (.cells #[.pointer (some ⟨R,0,none⟩)] 173 (0,0))∧wx.heap[R]?=some (.cells #[.slice va p.vars.length vc,.slice pa p.procs.length pc,.int .u8 p.main.kind,.int .i64 p.main.num,.string p.main.name,.slice ka p.main.kids.length kc,.pointer (some ⟨T,0,none⟩),.int .i64 0,.int .i64 F,.slice (some ⟨E,0,none⟩) p.procs.length p.procs.length] 175 (0,0))∧wx.heap[E]?=some (.cells Z 3 (0,0))∧Below w3.heap.size w3 wx∧w3.heap.size≤gG∧w3.heap.size≤R∧w3.heap.size≤E∧gG≠R∧gG≠E∧R≠E
theorem zdd(w:World)(a b c:Obj):(((w.alloc a).alloc b).alloc c).drew.heap[w.heap.size]?=some a∧(((w.alloc a).alloc b).alloc c).drew.heap[w.heap.size+1]?=some b∧(((w.alloc a).alloc b).alloc c).drew.heap[w.heap.size+1+1]?=some c∧Below w.heap.size w (((w.alloc a).alloc b).alloc c).drew:=by
 have h2:(((w.alloc a).alloc b).alloc c).heap[w.heap.size+1+1]?=some c:=by have:=zag ((w.alloc a).alloc b) c;simpa using this
 have h1:(((w.alloc a).alloc b).alloc c).heap[w.heap.size+1]?=some b:=zah (zan w a b);have h0:(((w.alloc a).alloc b).alloc c).heap[w.heap.size]?=some a:=zah (zaq w a b);exact⟨h0,h1,h2,zad (zaa (zaa (zaa (Below.refl _ _))))⟩
theorem set5B{b e:Nat}{v0 v1 v2 v3 v4:Value}(h:w.heap[b]?=some (.cells #[v0,v1,v2,v3,v4] e (0,0)))(x0 x1 x2 x3 x4:Value):(((((w.setCell ⟨b,0,none⟩ x0).setCell ⟨b,1,none⟩ x1).setCell ⟨b,2,none⟩ x2).setCell ⟨b,3,none⟩ x3).setCell ⟨b,4,none⟩ x4).heap[b]?=some (.cells #[x0,x1,x2,x3,x4] e (0,0)):=by have h3:=heap_setCell_same _ b 4 _ _ x4 (heap_setCell_same _ b 3 _ _ x3 (heap_setCell_same _ b 2 _ _ x2 (heap_setCell_same _ b 1 _ _ x1 (heap_setCell_same w b 0 _ _ x0 h))));simpa only[List.setIfInBounds_toArray,List.set_cons_zero,List.set_cons_succ]using h3
theorem zdJ(w:World)(b:Nat)(x0 x1 x2 x3 x4:Value){T:Nat}(h:T≠b):(((((w.setCell ⟨b,0,none⟩ x0).setCell ⟨b,1,none⟩ x1).setCell ⟨b,2,none⟩ x2).setCell ⟨b,3,none⟩ x3).setCell ⟨b,4,none⟩ x4).cell? ⟨T,j,none⟩=w.cell? ⟨T,j,none⟩:=by rw[zbe _ _ _ _ h,zbe _ _ _ _ h,zbe _ _ _ _ h,zbe _ _ _ _ h,zbe _ _ _ _ h]
theorem zet(w:World)(b:Nat)(x0 x1 x2 x3 x4:Value):Keeps w (((((w.setCell ⟨b,0,none⟩ x0).setCell ⟨b,1,none⟩ x1).setCell ⟨b,2,none⟩ x2).setCell ⟨b,3,none⟩ x3).setCell ⟨b,4,none⟩ x4) (fun k=>k=b):=((((zaf w b 0 x0).same (zaf _ b 1 x1)).same (zaf _ b 2 x2)).same (zaf _ b 3 x3)).same (zaf _ b 4 x4)
theorem zen{w1:World}{n b:Nat}(h:Below n w w1)(hb:n≤b){x0 x1 x2 x3 x4:Value}:Below n w (((((w1.setCell ⟨b,0,none⟩ x0).setCell ⟨b,1,none⟩ x1).setCell ⟨b,2,none⟩ x2).setCell ⟨b,3,none⟩ x3).setCell ⟨b,4,none⟩ x4):=((((h.setCell hb _).setCell hb _).setCell hb _).setCell hb _).setCell hb _
theorem cells5B{b e:Nat}{v0 v1 v2 v3 v4:Value}(h:w.heap[b]?=some (.cells #[v0,v1,v2,v3,v4] e (0,0))):w.cell? ⟨b,0,none⟩=some v0∧w.cell? ⟨b,1,none⟩=some v1∧w.cell? ⟨b,2,none⟩=some v2∧w.cell? ⟨b,3,none⟩=some v3∧w.cell? ⟨b,4,none⟩=some v4:=⟨zae h 0 rfl,zae h 1 rfl,zae h 2 rfl,zae h 3 rfl,zae h 4 rfl⟩
theorem zic{P:Program}{fn:Func}{p q:Tmp}{ty:TypeId}(h:fn.results=#[.tmp p,.cell q ty])(tmps:Array Value)(w:World)(g:Nat)(t:TypeId)(cs:Array Value)(fr:Nat×Nat)(d:TypeDesc)(v1:Value)(h1:tmps.getD p undef=v1)(hp:tmps.getD q undef=.pointer (some ⟨g,0,none⟩))(hg:w.heap[g]?=some (.cells cs t fr))(hu:P.underlying ty=some d)(hd:(match d with|.struct _|.array _ _=>true|_=>false)=true)(hi:(P.info? ty).map (·.size)=some cs.size):(results fn tmps).run P w=.ok (.tuple #[v1,.agg cs]) w:=by
 have h1':tmps[p]?.getD undef=v1:=by simpa using h1
 have hp':tmps[q]?.getD undef=.pointer (some ⟨g,0,none⟩):=by simpa using hp
 simp[results,h,h1',hp',asAddr,run_loadVar_row w g t ty cs fr d hg hu hd hi]
structure AftR (C:IC) (s1:XS) (g gG:Nat) (v1 v2:Value) (i o:List Int) (A3:Nat→Prop) (cs:List Nat) (W0:World) (w':World):Prop where
 st:∃ τ2 kv2 rf2,rf2.l=0∧SSt C τ2 w' kv2 [] rf2 C.p.vars cs s1.σ
 run:∃ ev,w'.heap[C.R]?=some (.cells (runB C s1.k ev) 175 (0,0))∧ev.oneCell'=true
 tp:w'.heap[g]?=some (.cells #[v1,v2] 244 (0,0))
 i1:IntsR A3 w' v1 i
 o1:IntsR A3 w' v2 o
 G:w'.heap[gG]?=some (.cells #[.pointer (some ⟨C.R,0,none⟩)] 173 (0,0))
 b:Below W0.heap.size W0 w'
def StartP(p:Prg)(s:Stt)(s1:XS)(w:World)(e:Ending)(w':World):Prop:=∃ev cv iv ov,e=.returned (.tuple #[ev,.agg #[cv,iv,ov,.int .i64 s1.k,.int .i64 0]])∧SttAt (Up w.heap.size) w' cv iv ov ⟨p.vars.map (fun d=>s1.σ d.name),s.inp,s.outp⟩∧Below w.heap.size w w'
theorem start_I {p:Prg} {s:Stt} {l:List Nd} {P:ByteArray→Option (List Bool)} {F:Int} {s1:XS} (hok:ProgOk p) (hfit:FitsP p.vars s) (hnd:(p.vars.map Dcl.name).Nodup) (hps:PsOk P p.procs) (hvn:VNm (visD p.vars)) (hm:p.main=blockN l) (hl:∀ n ∈ l,SIn P (visD p.vars) n) (hz:sizeN (blockN l)≤10000) (hpl:p.procs.length≤1000) (hF:0≤F∧F≤1000000)
 (hx:Ex apI p.procs F false 0 (.seq l) ⟨stoK p.vars s.cells p.vars.length,0,List.replicate p.procs.length 0⟩ (.ok s1)) (va pa ka:Option Addr) (vc pc kc:Nat) (cv iv ov:Value) (w:World) (hp:PrgAt Any w va vc pa pc ka kc p) (hs:SttAt Any w cv iv ov s):
 Calls Tryz.prog 107 #[PrgV va vc pa pc ka kc p,.agg #[cv,iv,ov],.int .i64 F,.bool false] w (StartP p s s1 w):=by
 obtain ⟨_,ca,cc,rfl⟩:=hs.c.form
 obtain ⟨ia,ic,rfl⟩:=hs.i.form
 obtain ⟨oa,oc,rfl⟩:=hs.o.form
 obtain ⟨W0,hW0⟩:∃ W0,W0=(((w.alloc (.cells #[.slice va p.vars.length vc,.slice pa p.procs.length pc,.int .u8 p.main.kind,.int .i64 p.main.num,.string p.main.name,.slice ka p.main.kids.length kc] 32)).alloc (.cells #[.slice ca s.cells.length cc,.slice ia s.inp.length ic,.slice oa s.outp.length oc] 59)).alloc (.cells #[.bool false] 4)).alloc (.cells #[.slice none 0 0,.slice none 0 0,.slice none 0 0,.int .i64 0,.int .i64 0] 121):=⟨_,rfl⟩
 have hB:Below w.heap.size w W0:=by subst hW0;exact zaa (zaa (zaa (zaa (Below.refl _ _))))
 have HB:=Lib.hid hB
 have HX0:Hid (W0.heap[w.heap.size]?=some (.cells #[.slice va p.vars.length vc,.slice pa p.procs.length pc,.int .u8 p.main.kind,.int .i64 p.main.num,.string p.main.name,.slice ka p.main.kids.length kc] 32 (0,0))):=Lib.hid (by subst hW0;exact four0 _ _ _ _ _)
 have HX1:Hid (W0.heap[w.heap.size+1]?=some (.cells #[.slice ca s.cells.length cc,.slice ia s.inp.length ic,.slice oa s.outp.length oc] 59 (0,0))):=Lib.hid (by subst hW0;exact four1 _ _ _ _ _)
 have HX2:Hid (W0.heap[w.heap.size+1+1]?=some (.cells #[.bool false] 4 (0,0))):=Lib.hid (by subst hW0;rw [Below.heap_alloc _ _ _ (by simp)];have:=zag ((w.alloc (.cells #[.slice va p.vars.length vc,.slice pa p.procs.length pc,.int .u8 p.main.kind,.int .i64 p.main.num,.string p.main.name,.slice ka p.main.kids.length kc] 32)).alloc (.cells #[.slice ca s.cells.length cc,.slice ia s.inp.length ic,.slice oa s.outp.length oc] 59)) (.cells #[.bool false] 4);simpa using this)
 have HX3:Hid (W0.heap[w.heap.size+1+1+1]?=some (.cells #[.slice none 0 0,.slice none 0 0,.slice none 0 0,.int .i64 0,.int .i64 0] 121 (0,0))):=Lib.hid (by subst hW0;exact four3 _ _ _ _ _)
 have HWZ:Hid (W0.heap.size=w.heap.size+4):=Lib.hid (by subst hW0;simp)
 have HVA:=Lib.hid (zey p hok.prg va vc pa pc ka kc Any W0 (hp.stays (Stays.of_below hB)))
 have HCK:=Lib.hid (fun W (h:Below W0.heap.size W0 W)=>ziy p hok va vc pa pc ka kc W ((hp.stays (Stays.of_below hB)).stays (Stays.of_below h)))
 have HNW:=Lib.hid (fun W (h:Below W0.heap.size W0 W)=>storeNew_I p.vars s _ _ _ _ Any W ((hp.hv.stays (Stays.of_below hB)).stays (Stays.of_below h)) ((hs.stays (Stays.of_below hB)).stays (Stays.of_below h)) hfit hnd)
 obtain ⟨x0,x1,x2,x3,x4,x5⟩:=cells6' HX0.out
 have HP:=Lib.hid (hp.stays (zeb hB))
 have HPS:=Lib.hid hps
 have HVN:=Lib.hid hvn
 have HMM:=Lib.hid hm
 have HLL:=Lib.hid hl
 have HZZ:=Lib.hid hz
 have HFF:=Lib.hid hF
 have HEX:=Lib.hid hx
 have HPL:=Lib.hid hpl
 have HFI:=Lib.hid hfit
 clear hok hfit hnd hps hvn hm hl hz hx hp hs hB hF
 subst hW0
 go_enter Tryz.func107,Tryz.ntmps107
 go_wp2_with fail
 generalize (((w.alloc (.cells #[.slice va p.vars.length vc,.slice pa p.procs.length pc,.int .u8 p.main.kind,.int .i64 p.main.num,.string p.main.name,.slice ka p.main.kids.length kc] 32)).alloc (.cells #[.slice ca s.cells.length cc,.slice ia s.inp.length ic,.slice oa s.outp.length oc] 59)).alloc (.cells #[.bool false] 4)).alloc (.cells #[.slice none 0 0,.slice none 0 0,.slice none 0 0,.int .i64 0,.int .i64 0] 121)=W0 at *
 refine HVA.out.mono ?_
 rintro e w1 ⟨rfl,hb1⟩
 have HB1:=Lib.hid hb1
 obtain ⟨y0,y1,y2,y3,y4,y5⟩:=cells6' (zac hb1 HX0.out)
 clear hb1 x0 x1 x2 x3 x4 x5
 go_wp2_with fail
 refine (HCK.out _ HB1.out).mono ?_
 rintro e w2 ⟨rfl,hb2⟩
 have HB2:=Lib.hid (zab hb2 HB1.out)
 clear hb2 y0 y1 y2 y3 y4 y5
 obtain ⟨y0,y1,y2,y3,y4,y5⟩:=cells6' (zac HB2.out HX0.out)
 obtain ⟨z0,z1,z2⟩:=cells3K (zac HB2.out HX1.out)
 go_wp2_with fail
 refine (HNW.out _ HB2.out).mono ?_
 rintro e w3 ⟨T,g,v1,v2,τ,rf,cs,rfl,hb3,hg,htp,hi1,ho1,htg,hst,hl0,hold⟩
 have HB3:=Lib.hid (zab hb3 HB2.out)
 have HOLD:=Lib.hid hold
 have HST:=Lib.hid hst
 have HTP:=Lib.hid (⟨hg,htp,hi1,ho1,htg,hl0⟩:w2.heap.size≤g∧w3.heap[g]?=some (.cells #[v1,v2] 244 (0,0))∧IntsR (fun k=>τ k=.oth) w3 v1 s.inp∧IntsR (fun k=>τ k=.oth) w3 v2 s.outp∧τ g=.oth∧rf.l=0)
 clear y0 y1 y2 y3 y4 y5 z0 z1 z2 hb3 hg htp hi1 ho1 htg hl0 hst hold HVA HCK HNW
 obtain ⟨y0,y1,y2,y3,y4,y5⟩:=cells6' (zac HB3.out HX0.out)
 obtain ⟨Z,hmk,hown⟩:=zhU p.procs.length hpl
 have HOWN:=Lib.hid hown
 clear hown
 go_wp2
 go_cut [12] from 37 to 46 (fun t wx=>RunCut p va pa ka vc pc kc T F Z w3 t wx)
 case first=>
  have HS:Hid (∀ W,Below w3.heap.size w3 W→(W.cell? ⟨w.heap.size,0,none⟩=some (.slice va p.vars.length vc)∧W.cell? ⟨w.heap.size,1,none⟩=some (.slice pa p.procs.length pc)∧W.cell? ⟨w.heap.size,2,none⟩=some (.int .u8 p.main.kind)∧W.cell? ⟨w.heap.size,3,none⟩=some (.int .i64 p.main.num)∧W.cell? ⟨w.heap.size,4,none⟩=some (.string p.main.name)∧W.cell? ⟨w.heap.size,5,none⟩=some (.slice ka p.main.kids.length kc))):=Lib.hid (fun W h=>cells6' (zac h (zac HB3.out HX0.out)))
  clear y0 y1 y2 y3 y4 y5
  go_region_held3 (fun W=>(W.cell? ⟨w.heap.size,0,none⟩=some (.slice va p.vars.length vc)∧W.cell? ⟨w.heap.size,1,none⟩=some (.slice pa p.procs.length pc)∧W.cell? ⟨w.heap.size,2,none⟩=some (.int .u8 p.main.kind)∧W.cell? ⟨w.heap.size,3,none⟩=some (.int .i64 p.main.num)∧W.cell? ⟨w.heap.size,4,none⟩=some (.string p.main.name)∧W.cell? ⟨w.heap.size,5,none⟩=some (.slice ka p.main.kids.length kc)))
   (first|exact HS.out _ (Below.setCell (by (repeat (with_reducible first|exact Below.refl _ _|refine zad ?_|refine zaa ?_|(apply zab;focus assumption)))) (by first|exact Nat.le_refl _|exact Below.size (by (repeat (with_reducible first|exact Below.refl _ _|refine zad ?_|refine zaa ?_|(apply zab;focus assumption))))) _)|exact HS.out _ (by (repeat (with_reducible first|exact Below.refl _ _|refine zad ?_|refine zaa ?_|(apply zab;focus assumption)))))
   (fail)
  all_goals
   go_wp2
   go_meet
   clear HS
   obtain ⟨h0,h1,h2,hb⟩:=zdd w3 _ _ _
   first
   | exact ⟨_,_,_,rfl,h2,h1,h0,hb,by omega,by omega,by omega,by omega,by omega,by omega⟩
   | exact ⟨_,_,_,rfl,h1,h2,h0,hb,by omega,by omega,by omega,by omega,by omega,by omega⟩
   | exact ⟨_,_,_,rfl,h0,h2,h1,hb,by omega,by omega,by omega,by omega,by omega,by omega⟩
 case rest=>
  obtain ⟨gG,R,E,rfl,hG,hR,hE,hbc,g1,g2,g3,n1,n2,n3⟩:=hcut
  obtain ⟨tp1,tp2,tp3,tp4,tp5,tp6⟩:=HTP.out
  have hwz:=HWZ.out
  have hz3:=HB3.out.size
  have hBW:Below W0.heap.size W0 wc:=zab hbc HB3.out
  have hcz:=hbc.size
  have hstart:=HSt.start (C:=⟨R,T,.pointer (some ⟨g,0,none⟩),p,va,vc,pa,pc,ka,kc,F⟩) (ev:=.slice (some ⟨E,0,none⟩) p.procs.length p.procs.length) (HST.out.below hbc) hR (HST.out.base.fresh R g2) (HOWN.out wc E hE) (fun k e=>by
   obtain rfl:E=k:=by simpa [Value.ownBlock] using e
   exact ⟨HST.out.base.fresh E g3,fun e=>n3 e.symm⟩) (HP.out.stays ⟨hBW.size,fun b hb a=>⟨hBW.block b hb,HOLD.out b (by have:=a.2;have:=HB2.out.size;omega),fun e=>by have h1:=a.2;have e:b=R:=e;omega,fun e=>by
    have h1:=a.2
    have e:E=b:=by simpa [Value.ownBlock] using e
    omega⟩⟩) HFF.out.2
  obtain ⟨hst,htags⟩:=hstart
  obtain ⟨τR,hτ⟩:∃ τR,τR=runT τ R (.slice (some ⟨E,0,none⟩) p.procs.length p.procs.length):=⟨_,rfl⟩
  have htags2:∀ k,k < w3.heap.size→τ k=.oth→τR k=.oth:=fun k hk e=>by
   rw [hτ]
   exact htags k e (fun e=>by have e:k=R:=e;omega) (fun e=>by
    have e:E=k:=by simpa [Value.ownBlock] using e
    omega)
  have hgG:τR gG=.oth:=by
   rw [hτ]
   exact htags gG (HST.out.base.fresh gG g1) n1 (fun e=>by
    have e:E=gG:=by simpa [Value.ownBlock] using e
    exact n2 e.symm)
  rw [← hτ] at hst
  have HR:Hid (∀ W,Below wc.heap.size wc W→Calls Tryz.prog 130 #[.pointer (some ⟨gG,0,none⟩),.pointer (some ⟨w.heap.size,0,none⟩),.pointer (some ⟨w.heap.size+1+1,0,none⟩)] W (fun e w'=>e=.returned (.tuple #[])∧(∀ k,wc.heap.size≤k→k < W.heap.size→w'.heap[k]?=W.heap[k]?)∧∀ eB x,wc.heap.size≤eB→eB < W.heap.size→AftR ⟨R,T,.pointer (some ⟨g,0,none⟩),p,va,vc,pa,pc,ka,kc,F⟩ s1 g gG v1 v2 s.inp s.outp (fun k=>k < w3.heap.size) cs W0 (w'.setCell ⟨eB,0,none⟩ x))):=Lib.hid (fun W hW=>by
   have hx0:=zac (zab hW hBW) HX0.out
   obtain ⟨q0,q1,q2,q3,q4,q5⟩:=cells6' hx0
   have hx2:=zac (zab hW hBW) HX2.out
   have hzz:=HZZ.out
   have hv32:=HFI.out.le
   refine (start1_I (C:=⟨R,T,.pointer (some ⟨g,0,none⟩),p,va,vc,pa,pc,ka,kc,F⟩) (b:=false) ⟨hst.below hW,HPS.out,HVN.out,by omega,by omega,by omega,by omega⟩ HLL.out HMM.out (zae (zac hW hG) 0 rfl) q2 q3 q4 q5 (zae hx2 0 rfl)).mono ?_
   rintro e w' ⟨r,hxr,hr⟩
   obtain rfl:=HEX.out.det _ hxr
   obtain ⟨rfl,τ2,kv2,rf2,hl2,hs2,hu2⟩:=hr
   have hoth:∀ k,wc.heap.size≤k→τR k=.oth:=fun k hk=>hst.st.base.fresh k hk
   have hblk:∀ k,k < W.heap.size→τR k=.oth→w'.heap[k]?=W.heap[k]?:=fun k hk e=>hu2.keeps.block k hk (fun x=>x e)
   refine ⟨rfl,fun k h1 h2=>hblk k h2 (hoth k h1),fun eB x h1 h2=>?_⟩
   have hK:=zaf w' eB 0 x
   have hte:τ2 eB=.oth:=hu2.tags eB h2 (hoth eB h1)
   have hWl:=hW.size
   have hul:=hu2.keeps.size
   have hst3:Stays (fun k=>τ k=.oth) (fun k=>k < w3.heap.size) w3 (w'.setCell ⟨eB,0,none⟩ x):=⟨Nat.le_trans hbc.size (Nat.le_trans hWl (Nat.le_trans hul hK.size)),fun b hb a=>⟨(hK.block b (by omega) (by omega)).trans ((hblk b (by omega) (htags2 b hb a)).trans ((hW.block b (by omega)).trans (hbc.block b hb))),hb⟩⟩
   obtain ⟨ev,e1,e2,e3⟩:=hs2.rb
   have hR2:τ2 R=.run:=hs2.tR
   exact {
    st:=⟨τ2,kv2,rf2,hl2.trans tp6,hs2.st.keeps hK (fun k e e2=>by have e2:k=eB:=e2;rw [e2,hte] at e;exact e) (fun _ _ _=>rfl) (fun k hk=>hs2.st.base.fresh k (Nat.le_trans hK.size hk))⟩
    run:=⟨ev,(hK.block R hs2.rlt (fun e=>by have e:R=eB:=e;rw [e,hte] at hR2;cases hR2)).trans e1,by obtain ⟨a,c,rfl⟩:=e2.form;rfl⟩
    tp:=(hst3.block g (Array.getElem?_eq_some_iff.1 tp2).1 tp5).1.trans tp2
    i1:=tp3.stays hst3
    o1:=tp4.stays hst3
    G:=(hK.block gG (by have:=(Array.getElem?_eq_some_iff.1 hG).1;omega) (by have:=(Array.getElem?_eq_some_iff.1 hG).1;omega)).trans ((hblk gG (by have:=(Array.getElem?_eq_some_iff.1 hG).1;omega) hgG).trans (zac hW hG))
    b:=⟨hK.os.trans (hu2.keeps.os.trans (hW.os.trans hBW.os)),hK.tape.trans (hu2.keeps.tape.trans (hW.tape.trans hBW.tape)),hK.output.trans (hu2.keeps.output.trans (hW.output.trans hBW.output)),by have:=hBW.size;have:=hK.size;omega,fun b hb=>by
     have h3:τR b=.oth:=htags2 b (by omega) (HOLD.out b (by have:=HB2.out.size;omega))
     have:=hBW.size
     exact (hK.block b (by omega) (by omega)).trans ((hblk b (by omega) h3).trans ((hW.block b (by omega)).trans (hBW.block b hb)))⟩ })
  have HGR:Hid (w.heap.size+1+1+1 < gG∧w.heap.size+1+1+1 < R):=Lib.hid ⟨by omega,by omega⟩
  have HG:=Lib.hid hG
  have HBW:=Lib.hid hBW
  have HG1:=Lib.hid hcz
  have hgl:=(Array.getElem?_eq_some_iff.1 hG).1
  have HGL:=Lib.hid hgl
  clear hst htags htags2 hgG hτ hR hE g1 g2 g3 n1 n2 n3 tp1 tp2 tp3 tp4 tp5 tp6 hbc hBW hwz hz3 HST HTP HOLD HP HOWN hmk hcz hgl
  go_wp2_with fail
  refine (attempt_ok _ _ _ _ _ (fun e w'=>e=.returned (.int .i64 0)∧AftR ⟨R,T,.pointer (some ⟨g,0,none⟩),p,va,vc,pa,pc,ka,kc,F⟩ s1 g gG v1 v2 s.inp s.outp (fun k=>k < w3.heap.size) cs W0 w') (zag wc _) (fun W hW hWe=>(HR.out W (zab hW (zaa (Below.refl _ _)))).mono ?_)).mono ?_
  · rintro e w' ⟨rfl,hal,haf⟩
    have hz:=hW.size
    rw [World.size_alloc] at hz
    refine ⟨rfl,⟨fun k h1 h2=>hal k (by rw [World.size_alloc] at h1;omega) h2,hal _ (Nat.le_refl _) (by omega)⟩,rfl,haf _ _ (by rw [World.size_alloc];omega) hWe⟩
  rintro e w4 ⟨rfl,ha⟩
  obtain ⟨⟨τ2,kv2,rf2,hl2,hs2⟩,⟨ev,hev,hone⟩,htp,hi,ho,hG4,hb4⟩:=ha
  have HSTATE:Hid (∀ W,Below w4.heap.size w4 W→Calls Tryz.prog 132 #[.pointer (some ⟨T,0,none⟩)] W (StP W p.vars s1.σ s.inp s.outp)):=Lib.hid (fun W h=>storeState_I (C:=⟨R,T,.pointer (some ⟨g,0,none⟩),p,va,vc,pa,pc,ka,kc,F⟩) (hs2.below h) hl2 rfl (zac h htp) (hi.stays (Stays.of_below h)) (ho.stays (Stays.of_below h)) (by have:=HFI.out.le;omega))
  have HS:Hid (∀ W,Below w4.heap.size w4 W→W.cell? ⟨gG,0,none⟩=some (.pointer (some ⟨R,0,none⟩))∧W.cell? ⟨R,9,none⟩=some ev∧W.cell? ⟨R,7,none⟩=some (.int .i64 s1.k)):=Lib.hid (fun W h=>⟨zae (zac h hG4) 0 rfl,zae (zac h hev) 9 rfl,zae (zac h hev) 7 rfl⟩)
  have HSS:Hid (∀ (W:World) (x0 x1 x2 x3 x4:Value),(W.cell? ⟨gG,0,none⟩=some (.pointer (some ⟨R,0,none⟩))∧W.cell? ⟨R,9,none⟩=some ev∧W.cell? ⟨R,7,none⟩=some (.int .i64 s1.k))→((((((W.setCell ⟨w.heap.size+1+1+1,0,none⟩ x0).setCell ⟨w.heap.size+1+1+1,1,none⟩ x1).setCell ⟨w.heap.size+1+1+1,2,none⟩ x2).setCell ⟨w.heap.size+1+1+1,3,none⟩ x3).setCell ⟨w.heap.size+1+1+1,4,none⟩ x4).cell? ⟨gG,0,none⟩=some (.pointer (some ⟨R,0,none⟩))∧(((((W.setCell ⟨w.heap.size+1+1+1,0,none⟩ x0).setCell ⟨w.heap.size+1+1+1,1,none⟩ x1).setCell ⟨w.heap.size+1+1+1,2,none⟩ x2).setCell ⟨w.heap.size+1+1+1,3,none⟩ x3).setCell ⟨w.heap.size+1+1+1,4,none⟩ x4).cell? ⟨R,9,none⟩=some ev∧(((((W.setCell ⟨w.heap.size+1+1+1,0,none⟩ x0).setCell ⟨w.heap.size+1+1+1,1,none⟩ x1).setCell ⟨w.heap.size+1+1+1,2,none⟩ x2).setCell ⟨w.heap.size+1+1+1,3,none⟩ x3).setCell ⟨w.heap.size+1+1+1,4,none⟩ x4).cell? ⟨R,7,none⟩=some (.int .i64 s1.k))):=Lib.hid (fun W x0 x1 x2 x3 x4 h=>⟨(zdJ _ _ _ _ _ _ _ (Nat.ne_of_gt HGR.out.1)).trans h.1,(zdJ _ _ _ _ _ _ _ (Nat.ne_of_gt HGR.out.2)).trans h.2.1,(zdJ _ _ _ _ _ _ _ (Nat.ne_of_gt HGR.out.2)).trans h.2.2⟩)
  have HX4:=Lib.hid (zac hb4 HX3.out)
  have HB4:=Lib.hid hb4
  clear hs2 hev htp hi ho hG4 hb4 HR hone hl2
  go_wp2
  go_region_held3 (fun W=>W.cell? ⟨gG,0,none⟩=some (.pointer (some ⟨R,0,none⟩))∧W.cell? ⟨R,9,none⟩=some ev∧W.cell? ⟨R,7,none⟩=some (.int .i64 s1.k))
   (first|with_reducible exact HSS.out _ _ _ _ _ _ (HS.out _ HB5.out)|with_reducible exact HS.out _ (by (repeat (with_reducible first|exact Below.refl _ _|refine zad ?_|refine zaa ?_|(apply zab;focus assumption)))))
   (first
   | (go_simp;go_at_call 132;(with_reducible refine (HSTATE.out _ (by (repeat (with_reducible first|exact Below.refl _ _|refine zad ?_|refine zaa ?_|(apply zab;focus assumption))))).mono ?_);rintro e w5 ⟨cv5,iv5,ov5,rfl,hs5,hb5⟩;obtain ⟨_,ca5,cc5,rfl⟩:=hs5.c.form;obtain ⟨ia5,ic5,rfl⟩:=hs5.i.form;obtain ⟨oa5,oc5,rfl⟩:=hs5.o.form;have HS5:=Lib.hid hs5;have HB5:Hid (Below w4.heap.size w4 w5):=Lib.hid (by (repeat (with_reducible first|exact Below.refl _ _|refine zad ?_|refine zaa ?_|(apply zab;focus assumption))));have HX5:=Lib.hid (zac HB5.out HX4.out);obtain ⟨p0,p1,p2,p3,p4⟩:=cells5B HX5.out;have pf:=unfrozen HX5.out;clear hs5)
   | fail)
  all_goals
   go_wp2
   (try simp only [Exit.inBlock,Exit.then])
   refine bodyPost_ret (zic (P:=Tryz.prog) rfl _ _ (w.heap.size+1+1+1) _ _ _ _ _ rfl rfl (set5B HX5.out _ _ _ _ _) Tryz.underlying121 rfl (by kernel_rfl)) rfl ?_
   have hK:=zet w5 (w.heap.size+1+1+1) (.slice ca5 p.vars.length cc5) (.slice ia5 s.inp.length ic5) (.slice oa5 s.outp.length oc5) (.int .i64 s1.k) (.int .i64 0)
   have hwz:=HWZ.out
   have hbz:=HB4.out.size
   have hB9:Below w.heap.size w w5:=zab HB5.out (zab HB4.out HB.out)
   have hS9:=HS5.out.stays (A':=Up w.heap.size) ⟨hK.size,fun b hb a=>by
    have a:w4.heap.size≤b:=a
    exact ⟨hK.block b hb (by omega),by unfold Up;omega⟩⟩
   rw [List.length_map] at hS9
   exact ⟨ev,_,_,_,rfl,hS9,zen hB9 (by omega)⟩
def ForP(p:Prg)(s:Stt)(s1:XS)(w:World)(e:Ending)(w':World):Prop:=∃cv iv ov,e=.returned (.agg #[cv,iv,ov,.int .i64 s1.k,.int .i64 0])∧SttAt (Up w.heap.size) w' cv iv ov ⟨p.vars.map (fun d=>s1.σ d.name),s.inp,s.outp⟩∧Below w.heap.size w w'
theorem forward_I{s:Stt}{F:Int}{s1:XS}(hok:ProgOk p)(hfit:FitsP p.vars s)(hnd:(p.vars.map Dcl.name).Nodup)(hps:PsOk P p.procs)(hvn:VNm (visD p.vars))(hm:p.main=blockN l)(hl:∀n∈l,SIn P (visD p.vars) n)(hz:sizeN (blockN l)≤10000)(hpl:p.procs.length≤1000)(hF:0≤F∧F≤1000000)(hx:Ex apI p.procs F false 0 (.seq l) ⟨stoK p.vars s.cells p.vars.length,0,List.replicate p.procs.length 0⟩ (.ok s1))(va pa ka:Option Addr)(vc pc kc:Nat)(cv iv ov:Value)(w:World)(hp:PrgAt Any w va vc pa pc ka kc p)(hs:SttAt Any w cv iv ov s):Calls Tryz.prog 68 #[PrgV va vc pa pc ka kc p,.agg #[cv,iv,ov],.int .i64 F] w (ForP p s s1 w):=by
 obtain⟨_,ca,cc,rfl⟩:=hs.c.form;obtain⟨ia,ic,rfl⟩:=hs.i.form;obtain⟨oa,oc,rfl⟩:=hs.o.form;obtain⟨W0,hW0⟩:∃W0,W0=((w.alloc (.cells #[.slice va p.vars.length vc,.slice pa p.procs.length pc,.int .u8 p.main.kind,.int .i64 p.main.num,.string p.main.name,.slice ka p.main.kids.length kc] 32)).alloc (.cells #[.slice ca s.cells.length cc,.slice ia s.inp.length ic,.slice oa s.outp.length oc] 59)).alloc (.cells #[.slice none 0 0,.slice none 0 0,.slice none 0 0,.int .i64 0,.int .i64 0] 121):=⟨_,rfl⟩;have hB:Below w.heap.size w W0:=by subst hW0;exact zaa (zaa (zaa (Below.refl _ _)))
 have HB:=Lib.hid hB;have h3:(((w.alloc (.cells #[.slice va p.vars.length vc,.slice pa p.procs.length pc,.int .u8 p.main.kind,.int .i64 p.main.num,.string p.main.name,.slice ka p.main.kids.length kc] 32)).alloc (.cells #[.slice ca s.cells.length cc,.slice ia s.inp.length ic,.slice oa s.outp.length oc] 59)).alloc (.cells #[.slice none 0 0,.slice none 0 0,.slice none 0 0,.int .i64 0,.int .i64 0] 121)).heap[w.heap.size+1+1]?=some (.cells #[.slice none 0 0,.slice none 0 0,.slice none 0 0,.int .i64 0,.int .i64 0] 121 (0,0)):=(zdd w _ _ _).2.2.1;have HX2:Hid (W0.heap[w.heap.size+1+1]?=some (.cells #[.slice none 0 0,.slice none 0 0,.slice none 0 0,.int .i64 0,.int .i64 0] 121 (0,0))):=Lib.hid (by subst hW0;exact h3);have HX0:Hid (W0.heap[w.heap.size]?=some (.cells #[.slice va p.vars.length vc,.slice pa p.procs.length pc,.int .u8 p.main.kind,.int .i64 p.main.num,.string p.main.name,.slice ka p.main.kids.length kc] 32 (0,0))):=Lib.hid (by subst hW0;exact(zdd w _ _ _).1);have HX1:Hid (W0.heap[w.heap.size+1]?=some (.cells #[.slice ca s.cells.length cc,.slice ia s.inp.length ic,.slice oa s.outp.length oc] 59 (0,0))):=Lib.hid (by subst hW0;exact(zdd w _ _ _).2.1);have HWZ:Hid (W0.heap.size=w.heap.size+3):=Lib.hid (by subst hW0;simp);have HST:=Lib.hid (start_I hok hfit hnd hps hvn hm hl hz hpl hF hx va pa ka vc pc kc _ _ _ W0 (hp.stays (Stays.of_below hB)) (hs.stays (Stays.of_below hB)));obtain⟨x0,x1,x2,x3,x4,x5⟩:=cells6' HX0.out;obtain⟨z0,z1,z2⟩:=cells3K HX1.out;clear hok hfit hnd hps hvn hm hl hz hpl hF hx hp hs hB h3;subst hW0;go_enter Tryz.func68,Tryz.ntmps68;go_wp2_with fail;generalize((w.alloc (.cells #[.slice va p.vars.length vc,.slice pa p.procs.length pc,.int .u8 p.main.kind,.int .i64 p.main.num,.string p.main.name,.slice ka p.main.kids.length kc] 32)).alloc (.cells #[.slice ca s.cells.length cc,.slice ia s.inp.length ic,.slice oa s.outp.length oc] 59)).alloc (.cells #[.slice none 0 0,.slice none 0 0,.slice none 0 0,.int .i64 0,.int .i64 0] 121)=W0 at*;refine HST.out.mono ?_;rintro e w1⟨ev,cv1,iv1,ov1,rfl,hs1,hb1⟩;obtain⟨_,ca1,cc1,rfl⟩:=hs1.c.form;obtain⟨ia1,ic1,rfl⟩:=hs1.i.form;obtain⟨oa1,oc1,rfl⟩:=hs1.o.form;have HX9:=Lib.hid (zac hb1 HX2.out);have HS1:=Lib.hid hs1;have HB1:=Lib.hid hb1;clear hs1 hb1 x0 x1 x2 x3 x4 x5 z0 z1 z2;go_upto_region 2 with fail;have hb2:Below w1.heap.size w1 (w1.alloc (.cells #[.slice ca1 p.vars.length cc1,.slice ia1 s.inp.length ic1,.slice oa1 s.outp.length oc1,.int .i64 s1.k,.int .i64 0] 121)):=zaa (Below.refl _ _);have HB2:=Lib.hid (zab hb2 (zab HB1.out HB.out));have HX3:=Lib.hid (zac hb2 HX9.out);have HS2:=Lib.hid (HS1.out.stays (Stays.of_below hb2));obtain⟨q0,q1,q2,q3,q4⟩:=cells5B (zag w1 (.cells #[.slice ca1 p.vars.length cc1,.slice ia1 s.inp.length ic1,.slice oa1 s.outp.length oc1,.int .i64 s1.k,.int .i64 0] 121));clear hb2;generalize(w1.alloc (.cells #[.slice ca1 p.vars.length cc1,.slice ia1 s.inp.length ic1,.slice oa1 s.outp.length oc1,.int .i64 s1.k,.int .i64 0] 121))=W2 at*;obtain⟨p0,p1,p2,p3,p4⟩:=cells5B HX3.out;have pf:=unfrozen HX3.out;go_wp2;(try simp only[Exit.inBlock,Exit.then]);refine bodyPost_ret (results_cell_row (P:=Tryz.prog) rfl _ _ (w.heap.size+1+1) _ _ _ _ rfl (set5B HX3.out _ _ _ _ _) Tryz.underlying121 rfl (by kernel_rfl)) rfl ?_;have hK:=zet W2 (w.heap.size+1+1) (.slice ca1 p.vars.length cc1) (.slice ia1 s.inp.length ic1) (.slice oa1 s.outp.length oc1) (.int .i64 s1.k) (.int .i64 0);have hwz:=HWZ.out;have hS9:=HS2.out.stays (A':=Up w.heap.size) ⟨hK.size,fun b hb a=>by have a:W0.heap.size≤b:=a;exact⟨hK.block b hb (by omega),by unfold Up;omega⟩⟩;rw[List.length_map]at hS9;exact⟨_,_,_,rfl,hS9,zen HB2.out (by omega)⟩
end Go.Proofs.YtnjfnellghhkaaaGreatDoor
