/- Programs that the checker accepts: what the walks ask, out of the rules for statements. -/
import Derived.Test.YtpobmoegmdhbpaaGreatDoorXa1
import Derived.Test.YtpobmoegmdhbpaaGreatDoorXs4
import Derived.Test.YtpobmoegmdhbpaaGreatDoorXs2
set_option linter.unusedSimpArgs false
set_option linter.unusedVariables false
set_option linter.unusedSectionVars false
namespace Go.Proofs.YtpobmoegmdhbpaaGreatDoor
open Go.RowKit
/- ast.IsStmt -/
theorem zcB {V:Vis} (hV:∀ s b,V s=some b→NmOk s) {n:Nd} (h:EOk V n):Passes 214 n:=by
 induction h with
 | num x hx=>exact zdI x hx
 | var s hs=>exact zaQ 2 s (.inl rfl) (hV _ _ hs)
 | op k a b hk _ _ ha hb=>exact zdv k a b hk.1 hk.2 ha hb
 | stk k s hk hs=>exact zaQ k s (by omega) (hV _ _ hs)
theorem zcl {l:List Nd} (h:∀ s ∈ l,Passes 162 s):Passes 126 (blockN l):=zcm l (fun j hj=>h _ (zaT hj))
theorem ziq {V:Vis} {t:ByteArray} {b:Bool} (ht:NmOk t) (hV:∀ s b,V s=some b→NmOk s):∀ s c,V.put t b s=some c→NmOk s:=fun s c h=>by
 by_cases e:s=t
 · rw [e];exact ht
 · simp only [Vis.put,if_neg e] at h;exact hV _ _ h
theorem zlW {P:ByteArray→Option (List Bool)} (hP:∀ p ks,P p=some ks→NmOk p) {V:Vis} {n:Nd} (h:SOk P V n):(∀ s b,V s=some b→NmOk s)→Passes 162 n:=by
 induction h with
 | asg k x e hk hx he hm=>
   intro hV
   have p1:=zbR x (hV _ _ hx)
   have p2:=zcB hV he
   rcases hk with rfl|rfl|rfl
   · exact zbX 40 _ _ (.inl rfl) p1 p2
   · exact zgU _ _ p1 p2
   · exact zbX 42 _ _ (.inr rfl) p1 p2
 | stk k s x hk hs hx=>intro hV;exact zcS k s _ hk (hV _ _ hs) (zbR x (hV _ _ hx))
 | cond x l1 l2 hx _ _ i1 i2=>
   intro hV
   have pv:=zaQ 2 x (.inl rfl) (hV _ _ hx)
   exact zgS 52 _ _ _ _ (.inl rfl) pv (zcl (fun s hs=>i1 s hs hV)) (zcl (fun s hs=>i2 s hs hV)) pv
 | from_ c d s l hs hc hcl hd _ il=>
   intro hV
   exact zgS 53 _ _ _ _ (.inr rfl) (zdv 16 _ _ (by omega) (by omega) (zaQ 5 s (by omega) (hV _ _ hs)) (zcB hV hc)) (zcl (fun s hs=>by simp at hs)) (zcl (fun s hs=>il s hs hV)) (zcB hV hd)
 | loc t a c l hn ht ha hc _ il=>intro hV;exact zcu t a _ c hn (zcB hV ha) (zcl (fun s hs=>il s hs (ziq hn hV))) (zcB hV hc)
 | locs t l hn ht _ il=>intro hV;exact zhU t _ hn (zcl (fun s hs=>il s hs (ziq hn hV)))
 | call k p args ks hk hp hl h8 ha hd=>
   intro hV
   refine zhX k p _ hk (hP _ _ hp) (by simpa using h8) (fun j hj=>?_)
   rw [List.length_map] at hj
   rw [zbE _ hj]
   exact zoe _ (hV _ _ (ha j hj))
theorem zii {P:ByteArray→Option (List Bool)} (hP:∀ p ks,P p=some ks→NmOk p) {V:Vis} (hV:∀ s b,V s=some b→NmOk s) {n:Nd} (h:BOk P V n):Passes 126 n:=by
 obtain ⟨l,rfl,hl⟩:=h
 exact zcl (fun s hs=>zlW hP (hl s hs) hV)
/- scope -/
theorem znc {l:List Prc} {s:ByteArray} (h:idxP l s < l.length):IdxP l s (idxP l s):=by
 refine ⟨h,?_,fun j hj=>?_⟩
 · have:=List.findIdx_getElem (p:=fun p:Prc=>decide (p.name=s)) (xs:=l) (w:=h)
   rw [zax h]
   exact of_decide_eq_true this
 · have:=List.not_of_lt_findIdx (p:=fun p:Prc=>decide (p.name=s)) (xs:=l) (i:=j) hj
   rw [zax (Nat.lt_trans hj h)]
   simpa using this
def prcT (l:List Prc) (s:ByteArray):Option (List Bool):=if idxP l s < l.length then some ((at' l (idxP l s)).params.map (fun d=>decide (d.kind=3))) else none
theorem zgK {l:List Prc} {s:ByteArray} {ks:List Bool} (h:prcT l s=some ks):∃ q,IdxP l s q∧ks=(at' l q).params.map (fun d=>decide (d.kind=3)):=by
 unfold prcT at h
 by_cases e:idxP l s < l.length
 · rw [if_pos e] at h
   exact ⟨_,znc e,(Option.some.inj h).symm⟩
 · rw [if_neg e] at h;cases h
theorem zeT {n:Nd} (h4:n.kind≠54) (h5:n.kind≠55) (i:Int) (L:List Dcl):innerL n i L=L:=by
 unfold innerL
 rw [if_neg (by omega),if_neg (by omega)]
theorem zcE {p:Prg} {L:List Dcl} {n:Nd} (h:n.kind≠2∧n.kind≠3∧n.kind≠4∧n.kind≠5∧n.kind≠44∧n.kind≠45∧n.kind≠50∧n.kind≠51∧n.kind≠54∧n.kind≠55) (hk:∀ m ∈ n.kids,VisOk p L m):VisOk p L n:=
 .node L n (by omega) (.inr (.inr (.inr (.inr h)))) (fun i hi=>by rw [zeT (by omega) (by omega)];exact hk _ (zaT hi))
theorem zet {p:Prg} {L:List Dcl} (hL:DclsOk L) {s:ByteArray} (h:visD L s=some false):VisOk p L (vN s):=
 .node L _ (by simp [vN,Nd.kind]) (.inl ⟨rfl,zcs hL h⟩) (fun i hi=>absurd hi (by simp [vN,Nd.kids]))
theorem zfb {p:Prg} {L:List Dcl} (hL:DclsOk L) {V:Vis} (hV:V=visD L) {n:Nd} (h:EOk V n):VisOk p L n:=by
 subst hV
 induction h with
 | num x hx=>exact zcE (by simp [numN,Nd.kind]) (fun m hm=>by simp [numN,Nd.kids] at hm)
 | var s hs=>exact zet hL hs
 | op k a b hk _ _ ha hb=>
   refine zcE (by simp only [nodeN,Nd.kind];omega) (fun m hm=>?_)
   simp only [nodeN,Nd.kids,List.mem_cons,List.not_mem_nil,or_false] at hm
   rcases hm with rfl|rfl
   · exact ha
   · exact hb
 | stk k s hk hs=>exact .node L _ (by simp only [nodeN,Nd.kind];omega) (.inr (.inl ⟨by simp only [nodeN,Nd.kind];omega,zcs hL hs⟩)) (fun i hi=>absurd hi (by simp [nodeN,Nd.kids]))
theorem zcU {p:Prg} {L:List Dcl} {l:List Nd} (h:∀ s ∈ l,VisOk p L s):VisOk p L (blockN l):=zcE (by simp [blockN,nodeN,Nd.kind]) h
theorem DclsOk.snoc {L:List Dcl} (h:DclsOk L) (s:ByteArray) (b:Bool):DclsOk (L ++ [dclN s b]):=fun d hd=>by
 rcases List.mem_append.1 hd with hd|hd
 · exact h d hd
 · rw [List.mem_singleton.1 hd];cases b <;> simp [dclN]
theorem znr {p:Prg} (hp:∀ q ∈ p.procs,DclsOk q.params) {V:Vis} {n:Nd} (h:SOk (prcT p.procs) V n):∀ L,DclsOk L→V=visD L→VisOk p L n:=by
 induction h with
 | asg k x e hk hx he hm=>
   intro L hL hV
   refine zcE (by simp only [nodeN,Nd.kind];omega) (fun m hm=>?_)
   simp only [nodeN,Nd.kids,List.mem_cons,List.not_mem_nil,or_false] at hm
   rcases hm with rfl|rfl
   · exact zet hL (hV ▸ hx)
   · exact zfb hL hV he
 | stk k s x hk hs hx=>
   intro L hL hV
   refine .node L _ (by simp only [nodeN,Nd.kind];omega) (.inr (.inl ⟨by simp only [nodeN,Nd.kind];omega,zcs hL (hV ▸ hs)⟩)) (fun i hi=>?_)
   rw [zeT (by simp only [nodeN,Nd.kind];omega) (by simp only [nodeN,Nd.kind];omega)]
   obtain rfl:i=0:=by simp [nodeN,Nd.kids] at hi;omega
   exact zet hL (hV ▸ hx)
 | cond x l1 l2 hx _ _ i1 i2=>
   intro L hL hV
   refine zcE (by simp [nodeN,Nd.kind]) (fun m hm=>?_)
   simp only [nodeN,Nd.kids,List.mem_cons,List.not_mem_nil,or_false] at hm
   rcases hm with rfl|rfl|rfl|rfl
   · exact zet hL (hV ▸ hx)
   · exact zcU (fun s hs=>i1 s hs L hL hV)
   · exact zcU (fun s hs=>i2 s hs L hL hV)
   · exact zet hL (hV ▸ hx)
 | from_ c d s l hs hc hcl hd _ il=>
   intro L hL hV
   refine zcE (by simp [nodeN,Nd.kind]) (fun m hm=>?_)
   simp only [nodeN,Nd.kids,List.mem_cons,List.not_mem_nil,or_false] at hm
   rcases hm with rfl|rfl|rfl|rfl
   · exact zfb hL hV (.op 16 _ _ (by omega) (.stk 5 s (.inr rfl) hs) hc)
   · exact zcU (fun s hs=>by simp at hs)
   · exact zcU (fun s hs=>il s hs L hL hV)
   · exact zfb hL hV hd
 | loc t a c l hn ht ha hc _ il=>
   intro L hL hV
   refine .node L _ (by simp [nodeN,Nd.kind]) (.inr (.inr (.inl ⟨by simp [nodeN,Nd.kind],zhh (hV ▸ ht)⟩))) (fun i hi=>?_)
   have hi3:i < 3:=by simpa [nodeN,Nd.kids] using hi
   match i,hi3 with
   | 0,_=>exact zfb hL hV ha
   | 1,_=>exact zcU (fun s hs=>il s hs (L ++ [dclN t false]) (hL.snoc t false) (by rw [zdb,hV]))
   | 2,_=>exact zfb hL hV hc
 | locs t l hn ht _ il=>
   intro L hL hV
   refine .node L _ (by simp [nodeN,Nd.kind]) (.inr (.inr (.inl ⟨by simp [nodeN,Nd.kind],zhh (hV ▸ ht)⟩))) (fun i hi=>?_)
   obtain rfl:i=0:=by simp [nodeN,Nd.kids] at hi;omega
   exact zcU (fun s hs=>il s hs (L ++ [dclN t true]) (hL.snoc t true) (by rw [zdb,hV]))
 | call k q args ks hk hq hl h8 ha hd=>
   intro L hL hV
   obtain ⟨j,hj,rfl⟩:=zgK hq
   have hlen:args.length=(at' p.procs j).params.length:=by rw [hl,List.length_map]
   refine .call L _ hk (.inr (.inr (.inr (.inl ⟨hk,j,hj,by simpa [callK,nodeN,Nd.kids] using hlen⟩)))) ⟨j,hj,by simpa [callK,nodeN,Nd.kids] using hlen,fun i hi=>?_⟩
   have hi2:i < args.length:=by simpa [callK,nodeN,Nd.kids] using hi
   have e:(at' (callK k q args).kids i).name=at' args i:=by
    show (at' (args.map vN) i).name=_
    rw [zbE _ hi2];rfl
   rw [e]
   have h1:=ha i hi2
   rw [hV,zbE _ (by omega)] at h1
   obtain ⟨d,hd1,hd2⟩:=zcs hL h1
   refine ⟨d,hd1,?_⟩
   rw [hd2]
   rcases hp _ (zaT hj.lt) _ (zaT (l:=(at' p.procs j).params) (j:=i) (by omega)) with e3|e3 <;> simp [e3]
theorem zkx {p:Prg} (hp:∀ q ∈ p.procs,DclsOk q.params) {L:List Dcl} (hL:DclsOk L) {n:Nd} (h:BOk (prcT p.procs) (visD L) n):VisOk p L n:=by
 obtain ⟨l,rfl,hl⟩:=h
 exact zcU (fun s hs=>znr hp (hl s hs) L hL rfl)
/- checker -/
def RejOk (n:Nd):Prop:=
 ((n.kind=40∨n.kind=41∨n.kind=42)∧∃ x e,n.kids=[vN x,e]∧∀ m ∈ preN e,m.name≠x)∨((n.kind=44∨n.kind=45)∧∃ x,n.kids=[vN x])∨((n.kind=50∨n.kind=51)∧∃ args:List ByteArray,n.kids=args.map vN∧args.Nodup)∨
 (n.kind=52∧∃ a b c x,n.kids=[a,b,c,vN x]∧NmOk x)∨(n.kind=53∧∃ s c b1 b2 d,n.kids=[nodeN 16 ByteArray.empty [nodeN 5 s [],c],b1,b2,d]∧isLeaf c∧(c.kind=1→0≤c.num)∧Passes 214 (nodeN 16 ByteArray.empty [nodeN 5 s [],c]))∨
 ((1≤n.kind∧n.kind≤23)∨n.kind=54∨n.kind=55∨n.kind=57)
theorem znN {V:Vis} {n:Nd} (h:EOk V n):n.kind=1→0≤n.num:=fun hk=>by
 cases h with
 | num x hx=>exact hx
 | var s hs=>exact absurd hk (by simp [vN,Nd.kind])
 | op k a b hk2 _ _=>simp only [nodeN,Nd.kind] at hk;omega
 | stk k s hk2 hs=>simp only [nodeN,Nd.kind] at hk;omega
theorem zfa {V:Vis} {n:Nd} (h:EOk V n):∀ m ∈ preN n,RejOk m:=by
 have low:∀ m:Nd,(1≤m.kind∧m.kind≤23)→RejOk m:=fun m h=>.inr (.inr (.inr (.inr (.inr (.inl h)))))
 induction h with
 | num x hx=>intro m hm;rw [zhy,List.mem_singleton] at hm;rw [hm];exact low _ (by simp [numN,Nd.kind])
 | var s hs=>intro m hm;rw [zjx,List.mem_singleton] at hm;rw [hm];exact low _ (by simp [vN,Nd.kind])
 | op k a b hk _ _ ha hb=>
   intro m hm
   rw [zlJ,List.mem_cons,List.mem_append] at hm
   rcases hm with rfl|hm|hm
   · exact low _ (by simp only [nodeN,Nd.kind];omega)
   · exact ha m hm
   · exact hb m hm
 | stk k s hk hs=>intro m hm;rw [zhJ,List.mem_singleton] at hm;rw [hm];exact low _ (by simp only [nodeN,Nd.kind];omega)
theorem zmg {l:List Nd} {m:Nd}:m ∈ preL l ↔ ∃ n ∈ l,m ∈ preN n:=by
 induction l with
 | nil=>simp [preL]
 | cons n r ih=>rw [preL,List.mem_append,ih];simp
theorem zmp (k:Int) (s:ByteArray) (l:List Nd):preN (nodeN k s l)=nodeN k s l :: preL l:=by rw [nodeN,preN]
theorem zbI {k:Int} {s:ByteArray} {l:List Nd} (h:RejOk (nodeN k s l)) (hl:∀ n ∈ l,∀ m ∈ preN n,RejOk m):∀ m ∈ preN (nodeN k s l),RejOk m:=fun m hm=>by
 rw [zmp,List.mem_cons] at hm
 rcases hm with rfl|hm
 · exact h
 · obtain ⟨n,hn,hm⟩:=zmg.1 hm
   exact hl n hn m hm
theorem zkt (s:ByteArray):∀ m ∈ preN (vN s),RejOk m:=fun m hm=>by
 rw [zjx,List.mem_singleton] at hm
 rw [hm];exact .inr (.inr (.inr (.inr (.inr (.inl (by simp [vN,Nd.kind]))))))
theorem zcR {l:List Nd} (hl:∀ n ∈ l,∀ m ∈ preN n,RejOk m):∀ m ∈ preN (blockN l),RejOk m:=zbI (.inr (.inr (.inr (.inr (.inr (.inr (.inr (.inr rfl)))))))) hl
theorem znE {P:ByteArray→Option (List Bool)} {V:Vis} {n:Nd} (h:SOk P V n):(∀ s b,V s=some b→NmOk s)→∀ m ∈ preN n,RejOk m:=by
 induction h with
 | asg k x e hk hx he hm=>
   intro hV
   refine zbI (.inl ⟨hk,x,e,rfl,hm⟩) (fun n hn=>?_)
   simp only [List.mem_cons,List.not_mem_nil,or_false] at hn
   rcases hn with rfl|rfl
   · exact zkt x
   · exact zfa he
 | stk k s x hk hs hx=>
   intro hV
   refine zbI (.inr (.inl ⟨hk,x,rfl⟩)) (fun n hn=>?_)
   rw [List.mem_singleton.1 hn];exact zkt x
 | cond x l1 l2 hx _ _ i1 i2=>
   intro hV
   refine zbI (.inr (.inr (.inr (.inl ⟨rfl,_,_,_,x,rfl,hV _ _ hx⟩)))) (fun n hn=>?_)
   simp only [List.mem_cons,List.not_mem_nil,or_false] at hn
   rcases hn with rfl|rfl|rfl|rfl
   · exact zkt x
   · exact zcR (fun s hs=>i1 s hs hV)
   · exact zcR (fun s hs=>i2 s hs hV)
   · exact zkt x
 | from_ c d s l hs hc hcl hd _ il=>
   intro hV
   have he:EOk _ (nodeN 16 ByteArray.empty [nodeN 5 s [],c]):=.op 16 _ _ (by omega) (.stk 5 s (.inr rfl) hs) hc
   refine zbI (.inr (.inr (.inr (.inr (.inl ⟨rfl,s,c,_,_,_,rfl,hcl,znN hc,zcB hV he⟩))))) (fun n hn=>?_)
   simp only [List.mem_cons,List.not_mem_nil,or_false] at hn
   rcases hn with rfl|rfl|rfl|rfl
   · exact zfa he
   · exact zcR (fun s hs=>by simp at hs)
   · exact zcR (fun s hs=>il s hs hV)
   · exact zfa hd
 | loc t a c l hn ht ha hc _ il=>
   intro hV
   refine zbI (.inr (.inr (.inr (.inr (.inr (.inr (.inl rfl))))))) (fun n hn2=>?_)
   simp only [List.mem_cons,List.not_mem_nil,or_false] at hn2
   rcases hn2 with rfl|rfl|rfl
   · exact zfa ha
   · exact zcR (fun s hs=>il s hs (ziq hn hV))
   · exact zfa hc
 | locs t l hn ht _ il=>
   intro hV
   refine zbI (.inr (.inr (.inr (.inr (.inr (.inr (.inr (.inl rfl)))))))) (fun n hn2=>?_)
   rw [List.mem_singleton.1 hn2]
   exact zcR (fun s hs=>il s hs (ziq hn hV))
 | call k q args ks hk hq hl h8 ha hd=>
   intro hV
   refine zbI (.inr (.inr (.inl ⟨hk,args,rfl,hd⟩))) (fun n hn=>?_)
   obtain ⟨s,_,rfl⟩:=List.mem_map.1 hn
   exact zkt s
theorem zkS {P:ByteArray→Option (List Bool)} {V:Vis} (hV:∀ s b,V s=some b→NmOk s) {n:Nd} (h:BOk P V n):∀ m ∈ preN n,RejOk m:=by
 obtain ⟨l,rfl,hl⟩:=h
 exact zcR (fun s hs=>znE (hl s hs) hV)
end Go.Proofs.YtpobmoegmdhbpaaGreatDoor
