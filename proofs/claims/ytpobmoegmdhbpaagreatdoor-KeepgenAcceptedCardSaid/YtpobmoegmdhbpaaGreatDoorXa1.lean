/- Contracts and plain lemmas (PTmp, PAcc): no statement of the seat is proved here. -/
import Derived.Test.YtpobmoegmdhbpaaGreatDoorXq27
import Derived.Test.YtpobmoegmdhbpaaGreatDoorXw1
import Derived.Test.YtpobmoegmdhbpaaGreatDoorXq31
set_option linter.unusedSimpArgs false
set_option linter.unusedVariables false
set_option linter.unusedSectionVars false
namespace Go.Proofs.YtpobmoegmdhbpaaGreatDoor
theorem zlB (i:Nat):tname i≠headS:=by
 intro h
 have h2:(tname i).data.toList=headS.data.toList:=by rw [h]
 simp [tname,headS,bstr] at h2
end Go.Proofs.YtpobmoegmdhbpaaGreatDoor
namespace Go.Proofs.YtpobmoegmdhbpaaGreatDoor
inductive EOk (V:Vis):Nd→Prop
 | num (x:Int) (h:0≤x):EOk V (numN x)
 | var (s:ByteArray) (h:V s=some false):EOk V (vN s)
 | op (k:Int) (a b:Nd) (hk:8≤k∧k≤23) (ha:EOk V a) (hb:EOk V b):EOk V (nodeN k ByteArray.empty [a,b])
 | stk (k:Int) (s:ByteArray) (hk:k=4∨k=5) (h:V s=some true):EOk V (nodeN k s [])
def isLeaf (n:Nd):Prop:=(∃ x,n=numN x)∨∃ s,n=vN s
def callK (k:Int) (p:ByteArray) (args:List ByteArray):Nd:=nodeN k p (args.map vN)
inductive SOk (P:ByteArray→Option (List Bool)):Vis→Nd→Prop
 | asg {V:Vis} (k:Int) (x:ByteArray) (e:Nd) (hk:k=40∨k=41∨k=42) (hx:V x=some false) (he:EOk V e) (hm:∀ m ∈ preN e,m.name≠x):SOk P V (nodeN k ByteArray.empty [vN x,e])
 | stk {V:Vis} (k:Int) (s x:ByteArray) (hk:k=44∨k=45) (hs:V s=some true) (hx:V x=some false):SOk P V (nodeN k s [vN x])
 | cond {V:Vis} (x:ByteArray) (l1 l2:List Nd) (hx:V x=some false) (h1:∀ s ∈ l1,SOk P V s) (h2:∀ s ∈ l2,SOk P V s):SOk P V (nodeN 52 ByteArray.empty [vN x,blockN l1,blockN l2,vN x])
 | from_ {V:Vis} (c d:Nd) (s:ByteArray) (l:List Nd) (hs:V s=some true) (hc:EOk V c) (hcl:isLeaf c) (hd:EOk V d) (hl:∀ s ∈ l,SOk P V s):SOk P V (nodeN 53 ByteArray.empty [nodeN 16 ByteArray.empty [nodeN 5 s [],c],blockN [],blockN l,d])
 | loc {V:Vis} (t:ByteArray) (a c:Nd) (l:List Nd) (hn:NmOk t) (ht:V t=none) (ha:EOk V a) (hc:EOk V c) (hl:∀ s ∈ l,SOk P (V.put t false) s):SOk P V (nodeN 54 t [a,blockN l,c])
 | locs {V:Vis} (t:ByteArray) (l:List Nd) (hn:NmOk t) (ht:V t=none) (hl:∀ s ∈ l,SOk P (V.put t true) s):SOk P V (nodeN 55 t [blockN l])
 | call {V:Vis} (k:Int) (p:ByteArray) (args:List ByteArray) (ks:List Bool) (hk:k=50∨k=51) (hp:P p=some ks) (hl:args.length=ks.length) (h8:args.length≤8) (ha:∀ i,i < args.length→V (at' args i)=some (at' ks i)) (hd:args.Nodup):SOk P V (callK k p args)
def BOk (P:ByteArray→Option (List Bool)) (V:Vis) (n:Nd):Prop:=∃ l,n=blockN l∧∀ s ∈ l,SOk P V s
/- the inverse -/
theorem zhZ (l:List Nd):invN (blockN l)=blockN (invL l).reverse:=by
 rw [blockN,nodeN,invN,invK,if_pos rfl];rfl
theorem zmz (k:Int) (p:ByteArray) (args:List ByteArray) (hk:k=50∨k=51):invN (callK k p args)=callK 51 p args:=by
 rcases hk with rfl|rfl <;> (rw [callK,nodeN,invN,invK];rfl)
theorem zeX {P:ByteArray→Option (List Bool)} {V:Vis} {l:List Nd} (h:∀ s ∈ l,SOk P V (invN s)):∀ s ∈ (invL l).reverse,SOk P V s:=fun s hs=>by
 rw [List.mem_reverse,zeo] at hs
 obtain ⟨x,hx,rfl⟩:=List.mem_map.1 hs
 exact h x hx
theorem zkU {P:ByteArray→Option (List Bool)} {V:Vis} {n:Nd} (h:SOk P V n):SOk P V (invN n):=by
 induction h with
 | asg k x e hk hx he hm=>
   rcases hk with rfl|rfl|rfl
   · have:invN (nodeN 40 ByteArray.empty [vN x,e])=nodeN 41 ByteArray.empty [vN x,e]:=by rw [nodeN,invN,invK];rfl
     rw [this];exact .asg 41 x e (.inr (.inl rfl)) hx he hm
   · have:invN (nodeN 41 ByteArray.empty [vN x,e])=nodeN 41 ByteArray.empty [vN x,e]:=by rw [nodeN,invN,invK];rfl
     rw [this];exact .asg 41 x e (.inr (.inl rfl)) hx he hm
   · have:invN (nodeN 42 ByteArray.empty [vN x,e])=nodeN 42 ByteArray.empty [vN x,e]:=by rw [nodeN,invN,invK];rfl
     rw [this];exact .asg 42 x e (.inr (.inr rfl)) hx he hm
 | stk k s x hk hs hx=>
   rcases hk with rfl|rfl
   · have:invN (nodeN 44 s [vN x])=nodeN 45 s [vN x]:=by rw [nodeN,invN,invK];rfl
     rw [this];exact .stk 45 s x (.inr rfl) hs hx
   · have:invN (nodeN 45 s [vN x])=nodeN 44 s [vN x]:=by rw [nodeN,invN,invK];rfl
     rw [this];exact .stk 44 s x (.inl rfl) hs hx
 | cond x l1 l2 hx _ _ i1 i2=>
   have:invN (nodeN 52 ByteArray.empty [vN x,blockN l1,blockN l2,vN x])=nodeN 52 ByteArray.empty [vN x,invN (blockN l1),invN (blockN l2),vN x]:=by
    rw [nodeN,invN,invK];simp [invL,at',nodeN]
   rw [this,zhZ,zhZ]
   exact .cond x _ _ hx (zeX i1) (zeX i2)
 | from_ c d s l hs hc hcl hd hl _=>
   have:invN (nodeN 53 ByteArray.empty [nodeN 16 ByteArray.empty [nodeN 5 s [],c],blockN [],blockN l,d])=nodeN 53 ByteArray.empty [nodeN 16 ByteArray.empty [nodeN 5 s [],c],blockN [],blockN l,d]:=by
    rw [nodeN,invN,invK];rfl
   rw [this];exact .from_ c d s l hs hc hcl hd hl
 | loc t a c l hn ht ha hc _ ih=>
   have:invN (nodeN 54 t [a,blockN l,c])=nodeN 54 t [c,invN (blockN l),a]:=by
    rw [nodeN,invN,invK];simp [invL,at',nodeN]
   rw [this,zhZ]
   exact .loc t c a _ hn ht hc ha (zeX ih)
 | locs t l hn ht hl _=>
   have:invN (nodeN 55 t [blockN l])=nodeN 55 t [blockN l]:=by rw [nodeN,invN,invK];rfl
   rw [this];exact .locs t l hn ht hl
 | call k p args ks hk hp hl h8 ha hd=>
   rw [zmz k p args hk]
   exact .call 51 p args ks (.inr rfl) hp hl h8 ha hd
/- the statements of binds -/
theorem zjx (s:ByteArray):preN (vN s)=[vN s]:=by rw [vN,preN,preL]
theorem zhy (x:Int):preN (numN x)=[numN x]:=by rw [numN,preN,preL]
theorem zhJ (k:Int) (s:ByteArray):preN (nodeN k s [])=[nodeN k s []]:=by rw [nodeN,preN,preL]
theorem zlJ (k:Int) (a b:Nd):preN (nodeN k ByteArray.empty [a,b])=nodeN k ByteArray.empty [a,b] :: (preN a ++ preN b):=by
 rw [nodeN,preN,preL,preL,preL,List.append_nil]
theorem zbZ (args:List ByteArray) (i:Nat) (h:i < args.length):argN args i=at' args i:=by
 rw [argN,at',List.getD_eq_getElem?_getD,List.getD_eq_getElem?_getD,List.getElem?_eq_getElem h];rfl
structure EnvOk (lib:List Fn) (cf:CallF) (P:ByteArray→Option (List Bool)) (V:Vis) (T:ByteArray→Bool→Prop):Prop where
 ty:∀ s b,T s b→V s=some b
 ne:∀ s b,T s b→s≠ByteArray.empty
 head:V headS=none
 copy:P lcopyS=some [true,true]
 fn:∀ nm,0≤findF lib nm→P (cf nm).1=some ((fnAt lib (findF lib nm)).params.map Par.list ++ [(fnAt lib (findF lib nm)).list] ++ (cf nm).2.map (fun _=>true))∧(fnAt lib (findF lib nm)).params.length+1+(cf nm).2.length≤8
 ex:∀ nm,(cf nm).2=[]∨∃ g,(cf nm).2=[g]∧V g=some true∧∀ b,¬ T g b
theorem zdu {P:ByteArray→Option (List Bool)} {V:Vis} {x:ByteArray} {e:Nd} (hx:V x=some false) (he:EOk V e) (hm:∀ m ∈ preN e,m.name≠x):∀ s ∈ [plusN x e],SOk P V s:=fun s hs=>by
 rw [List.mem_singleton.1 hs];exact .asg 40 x e (.inl rfl) hx he hm
theorem zem {P:ByteArray→Option (List Bool)} {V:Vis} {x y:ByteArray} (hP:P lcopyS=some [true,true]) (hx:V x=some true) (hy:V y=some true) (hne:x≠y):SOk P V (callN lcopyS [x,y]):=
 .call 50 lcopyS [x,y] [true,true] (.inl rfl) hP rfl (by simp) (fun i hi=>by
  match i,hi with
  | 0,_=>exact hx
  | 1,_=>exact hy) (by simp [hne])
theorem zbE {α β:Type} [Inhabited α] [Inhabited β] (f:α→β) {l:List α} {j:Nat} (h:j < l.length):at' (l.map f) j=f (at' l j):=by
 simp [at',List.getD_eq_getElem?_getD,List.getElem?_map,List.getElem?_eq_getElem h]
theorem zkC {V:Vis} {s:ByteArray} {b:Bool}:V.put s b s=some b:=by simp [Vis.put]
theorem ziF {V:Vis} {s t:ByteArray} {b c:Bool} (h:V s=some c) (ht:V t=none):V.put t b s=some c:=by
 have:s≠t:=fun e=>by rw [e,ht] at h;cases h
 simp [Vis.put,this,h]
theorem zdh {α:Type} [Inhabited α] {l:List α} {x:α} {i:Nat} (hi:i < l.length+1):at' (l ++ [x]) i=if i < l.length then at' l i else x:=by
 by_cases h:i < l.length
 · rw [if_pos h]
   simp only [at',List.getD_eq_getElem?_getD,List.getElem?_append_left h]
 · rw [if_neg h]
   obtain rfl:i=l.length:=by omega
   simp [at',List.getD_eq_getElem?_getD]
mutual
theorem zmK {lib:List Fn} {P:ByteArray→Option (List Bool)} {V:Vis} {T:ByteArray→Bool→Prop} {cf:CallF} (h:EnvOk lib cf P V T):∀ b:Bd,GoodB lib b→TyB lib T b→∀ s ∈ bindN cf b,SOk P V s
 | .mk tn list op num name args thn els,hg,ht=>by
   rw [GoodB] at hg
   rw [TyB] at ht
   obtain ⟨_,_,hop,hthn,hels⟩:=hg
   obtain ⟨⟨t1,t2,t3⟩,t4,t5⟩:=ht
   have hv:=h.ty _ _ t1
   have hne:=h.ne _ _ t1
   have n0:∀ i,i < args.length→at' args i≠tn:=fun i hi=>t2 _ (zaT hi)
   rw [bindN]
   rcases hop with ⟨rfl,hn⟩|⟨rfl,hl⟩|⟨rfl,hn,hl⟩|⟨rfl,hl⟩|⟨rfl,hl,hf⟩|rfl|⟨rfl,hl⟩|⟨hk,hl⟩
   · rw [if_pos rfl]
     have hb:list=false:=by simpa using t3
     subst hb
     exact zdu hv (.num _ hn) (fun m hm=>by rw [zhy,List.mem_singleton] at hm;rw [hm];exact fun e=>hne e.symm)
   · rw [if_neg (by omega),if_pos rfl]
     have hb:T (at' args 0) list:=by simpa using t3
     rw [zbZ args 0 (by omega)]
     cases list with
     | true=>
       rw [if_pos rfl]
       intro s hs
       rw [List.mem_singleton.1 hs]
       exact zem h.copy (h.ty _ _ hb) hv (n0 0 (by omega))
     | false=>
       rw [if_neg (by simp)]
       exact zdu hv (.var _ (h.ty _ _ hb)) (fun m hm=>by rw [zjx,List.mem_singleton] at hm;rw [hm];exact n0 0 (by omega))
   · rw [if_neg (by omega),if_neg (by omega),if_pos rfl]
     obtain ⟨hb,h0,h1⟩:list=false∧T (at' args 0) false∧T (at' args 1) false:=by simpa using t3
     subst hb
     rw [zbZ args 0 (by omega),zbZ args 1 (by omega),show num % 256=num by omega]
     refine zdu hv (.op _ _ _ hn (.var _ (h.ty _ _ h0)) (.var _ (h.ty _ _ h1))) (fun m hm=>?_)
     rw [zlJ,zjx,zjx] at hm
     simp only [List.singleton_append,List.mem_cons,List.not_mem_nil,or_false] at hm
     rcases hm with rfl|rfl|rfl
     · exact fun e=>hne e.symm
     · exact n0 0 (by omega)
     · exact n0 1 (by omega)
   · rw [if_neg (by omega),if_neg (by omega),if_neg (by omega),if_pos rfl]
     have hb:T (at' args 0) false:=by simpa using t3
     rw [zbZ args 0 (by omega)]
     intro s hs
     rw [List.mem_singleton.1 hs]
     exact .cond _ _ _ (h.ty _ _ hb) (zbM h thn hthn t4) (zbM h els hels t5)
   · rw [if_neg (by omega),if_neg (by omega),if_neg (by omega),if_neg (by omega),if_pos rfl]
     obtain ⟨hb,hal,hnd,hty⟩:list=(fnAt lib (findF lib name)).list∧args.length=(fnAt lib (findF lib name)).params.length∧args.Nodup∧(∀ i,i < args.length→T (at' args i) (at' (fnAt lib (findF lib name)).params i).list):=by simpa using t3
     obtain ⟨hp,h8⟩:=h.fn name hf
     intro s hs
     rw [List.mem_singleton.1 hs]
     show SOk P V (callK 50 (cf name).1 (args ++ [tn] ++ (cf name).2))
     have hbase:∀ i,i < (args ++ [tn]).length→V (at' (args ++ [tn]) i)=some (at' ((fnAt lib (findF lib name)).params.map Par.list ++ [(fnAt lib (findF lib name)).list]) i)∧∃ b,T (at' (args ++ [tn]) i) b:=fun i hi=>by
      rw [List.length_append,List.length_singleton] at hi
      rw [zdh hi,zdh (by rw [List.length_map];omega),List.length_map]
      by_cases hi2:i < args.length
      · rw [if_pos hi2,if_pos (by omega),zbE _ (by omega)]
        exact ⟨h.ty _ _ (hty i hi2),_,hty i hi2⟩
      · rw [if_neg hi2,if_neg (by omega),← hb];exact ⟨hv,_,t1⟩
     have hnd2:(args ++ [tn]).Nodup:=List.nodup_append.2 ⟨hnd,by simp,fun a ha b hb2 e=>by
      rw [List.mem_singleton.1 hb2] at e
      exact t2 a ha e⟩
     have hln:(args ++ [tn]).length=((fnAt lib (findF lib name)).params.map Par.list ++ [(fnAt lib (findF lib name)).list]).length:=by simp [hal]
     rcases h.ex name with he|⟨g,he,hg,hgn⟩
     · rw [he] at hp h8 ⊢
       rw [List.append_nil]
       rw [List.map_nil,List.append_nil] at hp
       exact .call 50 _ (args ++ [tn]) _ (.inl rfl) hp hln (by simp at h8 ⊢;omega) (fun i hi=>(hbase i hi).1) hnd2
     · rw [he] at hp h8 ⊢
       rw [List.map_singleton] at hp
       refine .call 50 _ (args ++ [tn] ++ [g]) _ (.inl rfl) hp (by rw [List.length_append,hln,List.length_append (bs:=[true])];rfl) (by simp at h8 ⊢;omega) (fun i hi=>?_) ?_
       · rw [List.length_append,List.length_singleton] at hi
         rw [zdh hi,zdh (l:=(fnAt lib (findF lib name)).params.map Par.list ++ [(fnAt lib (findF lib name)).list]) (x:=true) (by rw [← hln];exact hi),← hln]
         by_cases hi2:i < (args ++ [tn]).length
         · rw [if_pos hi2,if_pos hi2];exact (hbase i hi2).1
         · rw [if_neg hi2,if_neg hi2];exact hg
       · refine List.nodup_append.2 ⟨hnd2,by simp,fun a ha b hb2 e=>?_⟩
         rw [List.mem_singleton.1 hb2] at e
         obtain ⟨i,hi,rfl⟩:=List.getElem_of_mem ha
         obtain ⟨b,hb3⟩:=(hbase i hi).2
         rw [zax hi,e] at hb3
         exact hgn b hb3
   · simp
   · rw [if_neg (by omega),if_neg (by omega),if_neg (by omega),if_neg (by omega),if_neg (by omega),if_pos rfl]
     obtain ⟨hb,h0,h1⟩:list=true∧T (at' args 0) false∧T (at' args 1) true:=by simpa using t3
     subst hb
     rw [zbZ args 0 (by omega),zbZ args 1 (by omega)]
     intro s hs
     simp only [List.mem_cons,List.not_mem_nil,or_false] at hs
     rcases hs with rfl|rfl
     · exact zem h.copy (h.ty _ _ h1) hv (n0 1 (by omega))
     · refine .loc headS _ _ _ zdQ h.head (.var _ (h.ty _ _ h0)) (.num 0 (by omega)) (fun s hs=>?_)
       rw [List.mem_singleton.1 hs]
       exact .stk 44 tn headS (.inl rfl) (ziF hv h.head) zkC
   · rcases hk with rfl|rfl|rfl
     · rw [if_neg (by omega),if_neg (by omega),if_neg (by omega),if_neg (by omega),if_neg (by omega),if_neg (by omega),if_pos rfl]
       obtain ⟨hb,h0⟩:list=false∧T (at' args 0) true:=by simpa using t3
       subst hb
       rw [zbZ args 0 (by omega)]
       exact zdu hv (.stk 4 _ (.inl rfl) (h.ty _ _ h0)) (fun m hm=>by rw [zhJ,List.mem_singleton] at hm;rw [hm];exact n0 0 (by omega))
     · rw [if_neg (by omega),if_neg (by omega),if_neg (by omega),if_neg (by omega),if_neg (by omega),if_neg (by omega),if_neg (by omega),if_pos rfl]
       obtain ⟨hb,h0⟩:list=true∧T (at' args 0) true:=by simpa using t3
       subst hb
       rw [zbZ args 0 (by omega)]
       intro s hs
       simp only [List.mem_cons,List.not_mem_nil,or_false] at hs
       rcases hs with rfl|rfl
       · exact zem h.copy (h.ty _ _ h0) hv (n0 0 (by omega))
       · refine .loc headS _ _ _ zdQ h.head (.num 0 (by omega)) (.stk 4 _ (.inl rfl) (h.ty _ _ h0)) (fun s hs=>?_)
         rw [List.mem_singleton.1 hs]
         exact .stk 45 tn headS (.inr rfl) (ziF hv h.head) zkC
     · rw [if_neg (by omega),if_neg (by omega),if_neg (by omega),if_neg (by omega),if_neg (by omega),if_neg (by omega),if_neg (by omega),if_neg (by omega),if_pos rfl]
       obtain ⟨hb,h0⟩:list=false∧T (at' args 0) true:=by simpa using t3
       subst hb
       rw [zbZ args 0 (by omega)]
       refine zdu hv (.op 16 _ _ (by omega) (.stk 5 _ (.inr rfl) (h.ty _ _ h0)) (.num 0 (by omega))) (fun m hm=>?_)
       rw [zlJ,zhJ,zhy] at hm
       simp only [List.singleton_append,List.mem_cons,List.not_mem_nil,or_false] at hm
       rcases hm with rfl|rfl|rfl
       · exact fun e=>hne e.symm
       · exact n0 0 (by omega)
       · exact fun e=>hne e.symm
theorem zbM {lib:List Fn} {P:ByteArray→Option (List Bool)} {V:Vis} {T:ByteArray→Bool→Prop} {cf:CallF} (h:EnvOk lib cf P V T):∀ l:List Bd,GoodBs lib l→TyBs lib T l→∀ s ∈ bindsN cf l,SOk P V s
 | [],_,_=>by rw [bindsN];intro s hs;simp at hs
 | b :: r,hg,ht=>by
   rw [GoodBs] at hg
   rw [TyBs] at ht
   rw [bindsN]
   intro s hs
   rcases List.mem_append.1 hs with hs|hs
   · exact zmK h b hg.1 ht.1 s hs
   · exact zbM h r hg.2 ht.2 s hs
end
/- the locals -/
def putAll (V:Vis):List Par→Vis
 | []=>V
 | t :: r=>putAll (V.put t.name t.list) r
theorem zgx {P:ByteArray→Option (List Bool)} {n:Nd}:∀ (ts:List Par) (V:Vis),(∀ j,j < ts.length→NmOk (at' ts j).name)→(∀ j,j < ts.length→V (at' ts j).name=none)→(∀ i j,i < j→j < ts.length→(at' ts i).name≠(at' ts j).name)→BOk P (putAll V ts) n→BOk P V (localsN ts n)
 | [],V,_,_,_,h=>h
 | t :: r,V,hm,hn,hd,h=>by
   have h0:V t.name=none:=hn 0 (by simp)
   have ih:=zgx r (V.put t.name t.list) (fun j hj=>hm (j+1) (by simpa using hj)) (fun j hj=>by
    have h1:=hn (j+1) (by simpa using hj)
    have h2:=hd 0 (j+1) (by omega) (by simpa using hj)
    have h1:V (at' r j).name=none:=h1
    have h2:t.name≠(at' r j).name:=h2
    simp [Vis.put,Ne.symm h2,h1]) (fun i j hi hj=>hd (i+1) (j+1) (by omega) (by simpa using hj)) h
   obtain ⟨l,hl,hs⟩:=ih
   refine ⟨[if t.list then nodeN 55 t.name [localsN r n] else nodeN 54 t.name [numN 0,localsN r n,numN 0]],rfl,fun s hs2=>?_⟩
   rw [List.mem_singleton.1 hs2,hl]
   cases hb:t.list with
   | true=>rw [if_pos rfl];exact .locs t.name l (hm 0 (by simp)) h0 (by rw [← hb];exact hs)
   | false=>rw [if_neg (by simp)];exact .loc t.name _ _ l (hm 0 (by simp)) h0 (.num 0 (by omega)) (.num 0 (by omega)) (by rw [← hb];exact hs)
end Go.Proofs.YtpobmoegmdhbpaaGreatDoor
