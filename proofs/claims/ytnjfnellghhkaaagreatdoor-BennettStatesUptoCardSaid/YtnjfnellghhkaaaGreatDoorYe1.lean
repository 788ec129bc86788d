/- Contracts and plain lemmas (PInt, PInD, PEv, InA, InB, InC, InD, PInt2, InE, InG, InF): no statement of the seat is proved here. -/
import Derived.Test.YtnjfnellghhkaaaGreatDoorYd1
import Derived.Test.YtnjfnellghhkaaaGreatDoorYc1
import Derived.Test.YtnjfnellghhkaaaGreatDoorYb1
import Derived.Recover
import Derived.WalkLawsBesides
import Derived.Deep.RegionHeld3
import Derived.Deep.DeepCutAuto
set_option linter.unusedSimpArgs false
set_option linter.unusedVariables false
set_option linter.unusedSectionVars false
set_option maxRecDepth 100000
set_option maxHeartbeats 3200000
namespace Go.Proofs.YtnjfnellghhkaaaGreatDoor
abbrev Sto:=ByteArray→List Int
def Sto.put(σ:Sto)(s:ByteArray)(l:List Int):Sto:=fun y=>if y=s then l else σ y
def hd(l:List Int):Int:=l.headD 0
def lst(l:List Int):Int:=l.getLastD 0
def evE(ap:Int→Int→Int→Int×Int)(σ:Sto):Nd→Int×Int|.mk k num name kids=>if k=1 then(num,0)else if k=2 then(hd (σ name),0)else if k=4 then(if σ name=[]then(0,13)else(lst (σ name),0))else if k=5 then((σ name).length,0)else match kids with|[a,b]=>if(evE ap σ a).2≠0 then(0,(evE ap σ a).2)else if(evE ap σ b).2≠0 then(0,(evE ap σ b).2)else ap k (evE ap σ a).1 (evE ap σ b).1|_=>(0,7)termination_by n=>SizeOf.sizeOf n decreasing_by all_goals(simp_wf;omega)
structure XS where
 σ:Sto
 k:Int
 ent:List Int
abbrev IR:=Except Int XS
def stepX(F:Int)(s:XS):IR:=if F≤s.k then .error 18 else .ok {s with k:=s.k+1}
def holdsX(ap:Int→Int→Int→Int×Int)(F:Int)(s:XS)(n:Nd):Except Int (Bool×XS):=match stepX F s with|.error e=>.error e|.ok s1=>if(evE ap s1.σ n).2≠0 then .error (evE ap s1.σ n).2 else .ok (decide ((evE ap s1.σ n).1≠0),s1)
def assertX(ap:Int→Int→Int→Int×Int)(F:Int)(s:XS)(n:Nd)(want:Bool):IR:=match holdsX ap F s n with|.error e=>.error e|.ok (t,s1)=>if t=want then .ok s1 else .error 15
def invB(k:Int):Int:=if k=40 then 41 else if k=41 then 40 else if k=44 then 45 else if k=45 then 44 else k
def updI(ap:Int→Int→Int→Int×Int)(k x y:Int):Int:=if k=40 then(ap 8 x y).1 else if k=41 then(ap 9 x y).1 else(ap 15 x y).1
def basicX(ap:Int→Int→Int→Int×Int)(k:Int)(n:Nd)(σ:Sto):Except Int Sto:=let x:=(at' n.kids 0).name;if k=44 then(if 1000≤(σ n.name).length then .error 5 else .ok ((σ.put n.name (σ n.name++[hd (σ x)])).put x [0]))else if k=45 then(if σ n.name=[]then .error 13 else if hd (σ x)≠0 then .error 14 else .ok ((σ.put x [lst (σ n.name)]).put n.name (σ n.name).dropLast))else if k=43 then .ok ((σ.put x (σ (at' n.kids 1).name)).put (at' n.kids 1).name (σ x))else if(evE ap σ (at' n.kids 1)).2≠0 then .error (evE ap σ (at' n.kids 1)).2 else .ok (σ.put x [updI ap k (hd (σ x)) (evE ap σ (at' n.kids 1)).1])
def isBasic(k:Int):Prop:=k=40∨k=41∨k=42∨k=43∨k=44∨k=45
def doX(ap:Int→Int→Int→Int×Int)(F:Int)(b:Bool)(n:Nd)(s:XS):IR:=match stepX F s with|.error e=>.error e|.ok s1=>match basicX ap (if b then invB n.kind else n.kind) n s1.σ with|.error e=>.error e|.ok σ=>.ok {s1 with σ:=σ}
def fstN(b:Bool)(n:Nd):Nd:=at' n.kids (if b then n.kids.length-1 else 0)
def lstN(b:Bool)(n:Nd):Nd:=at' n.kids (if b then 0 else n.kids.length-1)
def ordL(b:Bool)(l:List Nd):List Nd:=if b then l.reverse else l
def bodyI(n:Nd):Nd:=if n.kind=54 then at' n.kids 1 else at' n.kids 0
def openX(ap:Int→Int→Int→Int×Int)(F:Int)(b:Bool)(n:Nd)(s:XS):IR:=match stepX F s with|.error e=>.error e|.ok s1=>if n.kind=54 then(if(evE ap s1.σ (fstN b n)).2≠0 then .error (evE ap s1.σ (fstN b n)).2 else .ok {s1 with σ:=s1.σ.put n.name [(evE ap s1.σ (fstN b n)).1]})else .ok {s1 with σ:=s1.σ.put n.name []}
def closeX(ap:Int→Int→Int→Int×Int)(F:Int)(b:Bool)(n:Nd)(s:XS):IR:=match stepX F s with|.error e=>.error e|.ok s1=>if n.kind=54 then(if(evE ap s1.σ (lstN b n)).2≠0 then .error (evE ap s1.σ (lstN b n)).2 else if hd (s1.σ n.name)≠(evE ap s1.σ (lstN b n)).1 then .error 16 else .ok s1)else(if s1.σ n.name≠[]then .error 16 else .ok s1)
def inP:List Dcl→List ByteArray→Sto→Sto|d::ds,a::al,σ=>(inP ds al σ).put d.name (σ a)|_,_,_=>fun _=>[]
def outP:List Dcl→List ByteArray→Sto→Sto→Sto|d::ds,a::al,σ',σ=>(outP ds al σ' σ).put a (σ' d.name)|_,_,_,σ=>σ
def argsI(n:Nd):List ByteArray:=n.kids.map Nd.name
def enterX(F:Int)(ps:List Prc)(d:Nat)(n:Nd)(s:XS):IR:=match stepX F s with|.error e=>.error e|.ok s1=>if 100≤d then .error 19 else .ok ⟨inP (at' ps (idxP ps n.name)).params (argsI n) s1.σ,s1.k,s1.ent.set (idxP ps n.name) (s1.ent.getD (idxP ps n.name) 0+1)⟩
def leaveX(F:Int)(ps:List Prc)(n:Nd)(s s':XS):IR:=match stepX F s' with|.error e=>.error e|.ok s1=>.ok ⟨outP (at' ps (idxP ps n.name)).params (argsI n) s1.σ s.σ,s1.k,s1.ent⟩
inductive Job where
 | seq (l:List Nd)
 | st (n:Nd)
 | it (n:Nd)
inductive Ex (ap:Int→Int→Int→Int × Int) (ps:List Prc) (F:Int):Bool→Nat→Job→XS→IR→Prop
 | nil (b d s):Ex ap ps F b d (.seq []) s (.ok s)
 | cons (b d n l s s1 r) (h1:Ex ap ps F b d (.st n) s (.ok s1)) (h2:Ex ap ps F b d (.seq l) s1 r):Ex ap ps F b d (.seq (n :: l)) s r
 | stop (b d n l s e) (h1:Ex ap ps F b d (.st n) s (.error e)):Ex ap ps F b d (.seq (n :: l)) s (.error e)
 | basic (b d n s) (hk:isBasic n.kind):Ex ap ps F b d (.st n) s (doX ap F b n s)
 | if0 (b d n s e) (hk:n.kind=52) (h:holdsX ap F s (fstN b n)=.error e):Ex ap ps F b d (.st n) s (.error e)
 | if1 (b d n s t s1 r) (hk:n.kind=52) (h:holdsX ap F s (fstN b n)=.ok (t,s1)) (h1:Ex ap ps F b d (.seq (ordL b (at' n.kids (if t then 1 else 2)).kids)) s1 r):Ex ap ps F b d (.st n) s (r.bind fun s2=>assertX ap F s2 (lstN b n) t)
 | loc0 (b d n s e) (hk:n.kind=54∨n.kind=55) (h:openX ap F b n s=.error e):Ex ap ps F b d (.st n) s (.error e)
 | loc1 (b d n s s1 r) (hk:n.kind=54∨n.kind=55) (h:openX ap F b n s=.ok s1) (h1:Ex ap ps F b d (.seq (ordL b (bodyI n).kids)) s1 r):Ex ap ps F b d (.st n) s (r.bind fun s2=>closeX ap F b n s2)
 | from0 (b d n s e) (hk:n.kind=53) (h:assertX ap F s (fstN b n) true=.error e):Ex ap ps F b d (.st n) s (.error e)
 | from1 (b d n s s1 r) (hk:n.kind=53) (h:assertX ap F s (fstN b n) true=.ok s1) (h1:Ex ap ps F b d (.it n) s1 r):Ex ap ps F b d (.st n) s r
 | it0 (b d n s e) (h1:Ex ap ps F b d (.seq (ordL b (at' n.kids 1).kids)) s (.error e)):Ex ap ps F b d (.it n) s (.error e)
 | it1 (b d n s s1 e) (h1:Ex ap ps F b d (.seq (ordL b (at' n.kids 1).kids)) s (.ok s1)) (h:holdsX ap F s1 (lstN b n)=.error e):Ex ap ps F b d (.it n) s (.error e)
 | it2 (b d n s s1 s2) (h1:Ex ap ps F b d (.seq (ordL b (at' n.kids 1).kids)) s (.ok s1)) (h:holdsX ap F s1 (lstN b n)=.ok (true,s2)):Ex ap ps F b d (.it n) s (.ok s2)
 | it3 (b d n s s1 s2 r e) (h1:Ex ap ps F b d (.seq (ordL b (at' n.kids 1).kids)) s (.ok s1)) (h:holdsX ap F s1 (lstN b n)=.ok (false,s2)) (h2:Ex ap ps F b d (.seq (ordL b (at' n.kids 2).kids)) s2 r) (h3:(r.bind fun s3=>assertX ap F s3 (fstN b n) false)=.error e):Ex ap ps F b d (.it n) s (.error e)
 | it4 (b d n s s1 s2 s3 s4 r) (h1:Ex ap ps F b d (.seq (ordL b (at' n.kids 1).kids)) s (.ok s1)) (h:holdsX ap F s1 (lstN b n)=.ok (false,s2)) (h2:Ex ap ps F b d (.seq (ordL b (at' n.kids 2).kids)) s2 (.ok s3)) (h3:assertX ap F s3 (fstN b n) false=.ok s4) (h4:Ex ap ps F b d (.it n) s4 r):Ex ap ps F b d (.it n) s r
 | call0 (b d n s e) (hk:n.kind=50∨n.kind=51) (h:enterX F ps d n s=.error e):Ex ap ps F b d (.st n) s (.error e)
 | call1 (b d n s s1 r) (hk:n.kind=50∨n.kind=51) (h:enterX F ps d n s=.ok s1) (h1:Ex ap ps F (b != decide (n.kind=51)) (d+1) (.seq (ordL (b != decide (n.kind=51)) (at' ps (idxP ps n.name)).body.kids)) s1 r):Ex ap ps F b d (.st n) s (r.bind fun s2=>leaveX F ps n s s2)
theorem Ex.snoc {ap:Int→Int→Int→Int × Int} {ps:List Prc} {F:Int} {b:Bool} {d:Nat} {m:Nd} {s1:XS} {r:IR} (h2:Ex ap ps F b d (.st m) s1 r):∀ (l:List Nd) (s:XS),Ex ap ps F b d (.seq l) s (.ok s1)→Ex ap ps F b d (.seq (l ++ [m])) s r
 | [],s,h=>by
   cases h
   cases r with
   | error e=>exact .stop _ _ _ _ _ _ h2
   | ok s2=>exact .cons _ _ _ _ _ _ _ h2 (.nil _ _ _)
 | n :: l,s,h=>by
   cases h with
   | cons _ _ _ _ _ s2 _ h3 h4=>exact .cons _ _ _ _ _ _ _ h3 (Ex.snoc h2 l s2 h4)
variable {D:Nat → Prop}{S:Nat → Prop}{a:Option Addr}{ap:Int → Int → Int → Int × Int}{b:Bool}{cs:List Nat}{d:Nat}{e:Nat}{j:Nat}{kind:Int}{kv:Value}{m:Nat}{off:Nat}{ps:List Prc}{vs:List Dcl}{w:World}{w':World}{w1:World}{w2:World}
theorem Ex.fails{F:Int}{e:Int}:∀(l m:List Nd)(s:XS),Ex ap ps F b d (.seq l) s (.error e)→Ex ap ps F b d (.seq (l++m)) s (.error e)|[],m,s,h=>by cases h|n::l,m,s,h=>by cases h with|cons _ _ _ _ _ s2 _ h3 h4=>exact .cons _ _ _ _ _ _ _ h3 (Ex.fails l m s2 h4)|stop _ _ _ _ _ _ h1=>exact .stop _ _ _ _ _ _ h1
theorem Ex.det {ap:Int→Int→Int→Int × Int} {ps:List Prc} {F:Int} {b:Bool} {d:Nat} {J:Job} {s:XS} {r:IR} (h:Ex ap ps F b d J s r):∀ r',Ex ap ps F b d J s r'→r=r':=by
 induction h with
 | nil b d s=>intro r' h';cases h';rfl
 | cons b d n l s s1 r h1 h2 i1 i2=>
   intro r' h'
   cases h' with
   | cons _ _ _ _ _ s1' _ g1 g2=>
     have e:=i1 _ g1
     cases e
     exact i2 _ g2
   | stop _ _ _ _ _ e g1=>have e:=i1 _ g1;cases e
 | stop b d n l s e h1 i1=>
   intro r' h'
   cases h' with
   | cons _ _ _ _ _ s1' _ g1 g2=>have e:=i1 _ g1;cases e
   | stop _ _ _ _ _ e g1=>have e:=i1 _ g1;cases e;rfl
 | basic b d n s hk=>
   intro r' h'
   cases h'
   case basic=>rfl
   all_goals (exfalso;(try unfold isBasic at *);omega)
 | if0 b d n s e hk h=>
   intro r' h'
   cases h'
   case if0 e' hk' g=>rw [h] at g;cases g;rfl
   case if1 t s1 r'' hk' g1 g=>rw [h] at g;cases g
   all_goals (exfalso;(try unfold isBasic at *);omega)
 | if1 b d n s t s1 r hk h h1 i1=>
   intro r' h'
   cases h'
   case if0 e' hk' g=>rw [h] at g;cases g
   case if1 t s1 r'' hk' g1 g=>rw [h] at g;cases g;rw [i1 _ g1]
   all_goals (exfalso;(try unfold isBasic at *);omega)
 | loc0 b d n s e hk h=>
   intro r' h'
   cases h'
   case loc0 e' hk' g=>rw [h] at g;cases g;rfl
   case loc1 s1 r'' hk' g1 g=>rw [h] at g;cases g
   all_goals (exfalso;(try unfold isBasic at *);omega)
 | loc1 b d n s s1 r hk h h1 i1=>
   intro r' h'
   cases h'
   case loc0 e' hk' g=>rw [h] at g;cases g
   case loc1 s1 r'' hk' g1 g=>rw [h] at g;cases g;rw [i1 _ g1]
   all_goals (exfalso;(try unfold isBasic at *);omega)
 | from0 b d n s e hk h=>
   intro r' h'
   cases h'
   case from0 e' hk' g=>rw [h] at g;cases g;rfl
   case from1 s1 hk' g g1=>rw [h] at g;cases g
   all_goals (exfalso;(try unfold isBasic at *);omega)
 | from1 b d n s s1 r hk h h1 i1=>
   intro r' h'
   cases h'
   case from0 e' hk' g=>rw [h] at g;cases g
   case from1 s1 hk' g g1=>rw [h] at g;cases g;exact i1 _ g1
   all_goals (exfalso;(try unfold isBasic at *);omega)
 | it0 b d n s e h1 i1=>
   intro r' h'
   clear h1
   cases h'
   all_goals (have q:=i1 _ (by assumption);cases q)
   rfl
 | it1 b d n s s1 e h1 h i1=>
   intro r' h'
   clear h1
   cases h'
   all_goals (have q:=i1 _ (by assumption);cases q)
   all_goals (rename_i z;have y:=h.symm.trans (by assumption);cases y)
   rfl
 | it2 b d n s s1 s2 h1 h i1=>
   intro r' h'
   clear h1
   cases h'
   all_goals (have q:=i1 _ (by assumption);cases q)
   all_goals (have y:=h.symm.trans (by assumption);cases y)
   rfl
 | it3 b d n s s1 s2 r e h1 h h2 h3 i1 i2=>
   intro r' h'
   clear h1 h2
   cases h'
   all_goals (have q:=i1 _ (by assumption);cases q)
   all_goals (have y:=h.symm.trans (by assumption);cases y)
   all_goals (have q:=i2 _ (by assumption);subst q)
   · have y:=h3.symm.trans (by assumption);cases y;rfl
   · have y:=h3.symm.trans (show assertX ap F _ (fstN b n) false=.ok _ by assumption);cases y
 | it4 b d n s s1 s2 s3 s4 r h1 h h2 h3 h4 i1 i2 i4=>
   intro r' h'
   clear h1 h2 h4
   cases h'
   all_goals (have q:=i1 _ (by assumption);cases q)
   all_goals (have y:=h.symm.trans (by assumption);cases y)
   all_goals (have q:=i2 _ (by assumption);cases q)
   · have y:=(show (Except.ok s3:IR).bind (fun q=>assertX ap F q (fstN b n) false)=.error _ by assumption).symm.trans h3;cases y
   · have y:=h3.symm.trans (by assumption);cases y;exact i4 _ (by assumption)
 | call0 b d n s e hk h=>
   intro r' h'
   cases h'
   case call0 e' hk' g=>rw [h] at g;cases g;rfl
   case call1 s1 r'' hk' g1 g=>rw [h] at g;cases g
   all_goals (exfalso;(try unfold isBasic at *);omega)
 | call1 b d n s s1 r hk h h1 i1=>
   intro r' h'
   cases h'
   case call0 e' hk' g=>rw [h] at g;cases g
   case call1 s1 r'' hk' g1 g=>rw [h] at g;cases g;rw [i1 _ g1]
   all_goals (exfalso;(try unfold isBasic at *);omega)
def evS (ap:Int→Int→Int→Int × Int) (σ:Sto):Nat→Nd→Option (Int × Int)
 | 0,_=>none
 | m+1,.mk k num name kids=>if k=1 then some (num,0) else if k=2 then some (hd (σ name),0) else if k < 8 then none else match kids with
   | [a,b]=>match evS ap σ m a,evS ap σ m b with
     | some (x,e),some (y,f)=>if e≠0∨f≠0 then none else some (ap k x y)
     | _,_=>none
   | _=>none
theorem zfp{σ:Sto}:∀{m:Nat}{n:Nd}{r:Int×Int},evS ap σ m n=some r→evE ap σ n=r|m+1,.mk k num name kids,r,h=>by unfold evS at h;split at h;(·rename_i e;cases h;unfold evE;rw[if_pos e]);·rename_i e1;split at h;(·rename_i e;cases h;unfold evE;rw[if_neg e1,if_pos e]);·rename_i e2;split at h;(·cases h);·rename_i e3;split at h;(·rename_i a b;split at h;(·rename_i x e y f h1 h2;split at h;(·cases h);·rename_i e4;have i1:=zfp h1;have i2:=zfp h2;cases h;unfold evE;rw[if_neg e1,if_neg e2,if_neg (by omega),if_neg (by omega)];simp only[i1,i2];rw[if_neg (by simp only[ne_eq];omega),if_neg (by simp only[ne_eq];omega)]);·cases h);·cases h
def stepS(F:Int)(s:XS):Option XS:=if F≤s.k then none else some {s with k:=s.k+1}
theorem zfd{F:Int}{s s1:XS}(h:stepS F s=some s1):stepX F s=.ok s1:=by
 unfold stepS at h;unfold stepX;split at h;·cases h
 ·rename_i e;cases h;rw[if_neg e]
def runS (ap:Int→Int→Int→Int × Int) (ps:List Prc) (F:Int):Nat→Bool→Nat→Job→XS→Option XS
 | 0,_,_,_,_=>none
 | m+1,b,d,.seq [],s=>some s
 | m+1,b,d,.seq (n :: l),s=>match runS ap ps F m b d (.st n) s with
   | some s1=>runS ap ps F m b d (.seq l) s1
   | none=>none
 | m+1,b,d,.it n,s=>none
 | m+1,b,d,.st n,s=>match stepS F s with
   | none=>none
   | some s1=>
     if b=false∧(n.kind=40∨n.kind=41∨n.kind=42) then match evS ap s1.σ 9 (at' n.kids 1) with
      | some (y,e)=>if e≠0 then none else some { s1 with σ:=s1.σ.put (at' n.kids 0).name [updI ap n.kind (hd (s1.σ (at' n.kids 0).name)) y] }
      | none=>none
     else if n.kind=54 then match evS ap s1.σ 9 (fstN b n) with
      | some (y,e)=>if e≠0 then none else match runS ap ps F m b d (.seq (ordL b (bodyI n).kids)) { s1 with σ:=s1.σ.put n.name [y] } with
        | some s2=>match stepS F s2 with
          | some s3=>match evS ap s3.σ 9 (lstN b n) with
            | some (z,e)=>if e≠0∨hd (s3.σ n.name)≠z then none else some s3
            | none=>none
          | none=>none
        | none=>none
      | none=>none
     else if n.kind=50 then if 100≤d then none else match runS ap ps F m b (d+1) (.seq (ordL b (at' ps (idxP ps n.name)).body.kids)) ⟨inP (at' ps (idxP ps n.name)).params (argsI n) s1.σ,s1.k,s1.ent.set (idxP ps n.name) (s1.ent.getD (idxP ps n.name) 0+1)⟩ with
      | some s2=>match stepS F s2 with
        | some s3=>some ⟨outP (at' ps (idxP ps n.name)).params (argsI n) s3.σ s.σ,s3.k,s3.ent⟩
        | none=>none
      | none=>none
     else none
theorem zea{F:Int}:∀{m:Nat}{b:Bool}{d:Nat}{J:Job}{s s':XS},runS ap ps F m b d J s=some s'→Ex ap ps F b d J s (.ok s')|m+1,b,d,.seq [],s,s',h=>by unfold runS at h;cases h;exact .nil _ _ _|m+1,b,d,.seq (n::l),s,s',h=>by unfold runS at h;split at h;(·rename_i s1 h1;exact .cons _ _ _ _ _ _ _ (zea h1) (zea h));·cases h|m+1,b,d,.it n,s,s',h=>by unfold runS at h;cases h|m+1,b,d,.st n,s,s',h=>by unfold runS at h;split at h;(·cases h);rename_i s1 hs1;have q1:=zfd hs1;split at h;(·rename_i hk;split at h;(·rename_i y e hy;split at h;(·cases h);·rename_i he;have:=zfp hy;cases h;obtain⟨rfl,hk⟩:=hk;(have hx:doX ap F false n s=.ok {s1 with σ:=s1.σ.put (at' n.kids 0).name [updI ap n.kind (hd (s1.σ (at' n.kids 0).name)) y]}:=by unfold doX;rw[q1];simp only[Bool.false_eq_true,if_false,basicX,this];simp only[Decidable.not_not]at he;subst he;rw[if_neg (by omega),if_neg (by omega),if_neg (by omega),if_neg (by simp)]);rw[←hx];exact .basic _ _ _ _ (by unfold isBasic;omega));·cases h);·split at h;(·rename_i hk;split at h;(·rename_i y e hy;split at h;(·cases h);rename_i he;simp only[Decidable.not_not]at he;subst he;have hy:=zfp hy;split at h;(·rename_i s2 h2;split at h;(·rename_i s3 h3;have h3:=zfd h3;split at h;(·rename_i z e hz;have hz:=zfp hz;split at h;(·cases h);·rename_i he;cases h;(have ho:openX ap F b n s=.ok {s1 with σ:=s1.σ.put n.name [y]}:=by unfold openX;rw[q1];simp[hk,hy]);(have hc:closeX ap F b n s2=.ok s':=by unfold closeX;rw[h3];simp only[hk,if_true,hz];rw[if_neg (fun x=>he (.inl x)),if_neg (fun x=>he (.inr x))]);have:=Ex.loc1 (ps:=ps) (F:=F) b d n s _ _ (.inl hk) ho (zea h2);rw[show((Except.ok s2:IR).bind fun s2=>closeX ap F b n s2)=.ok s' from hc]at this;exact this);·cases h);·cases h);·cases h);·cases h);·split at h;(·rename_i hk;split at h;(·cases h);rename_i hd;split at h;(·rename_i s2 h2;split at h;(·rename_i s3 h3;have h3:=zfd h3;cases h;(have he:enterX F ps d n s=.ok ⟨inP (at' ps (idxP ps n.name)).params (argsI n) s1.σ,s1.k,s1.ent.set (idxP ps n.name) (s1.ent.getD (idxP ps n.name) 0+1)⟩:=by unfold enterX;rw[q1];simp only;rw[if_neg hd]);(have hb:(b !=decide (n.kind=51))=b:=by rw[hk];cases b<;>rfl);have:=Ex.call1 (ap:=ap) (ps:=ps) (F:=F) b d n s _ (.ok s2) (.inl hk) he (by rw[hb];exact zea h2);(have hl:leaveX F ps n s s2=.ok ⟨outP (at' ps (idxP ps n.name)).params (argsI n) s3.σ s.σ,s3.k,s3.ent⟩:=by unfold leaveX;rw[h3]);rw[show((Except.ok s2:IR).bind fun s2=>leaveX F ps n s s2)=_ from hl]at this;exact this);·cases h);·cases h);·cases h
open Go.RowKit
inductive Tg where
 | oth
 | run
 | ent
 | store
 | calls
 | vars
 | crow
 | cell
 | items (c:Nat)
def Sish:Tg→Prop|.oth=>False|.run=>False|.ent=>False|_=>True
def Fish:Tg→Prop|.vars=>True|.crow=>True|.cell=>True|.items _=>True|_=>False
theorem Fish.s{t:Tg}(h:Fish t):Sish t:=by cases t<;>simp_all[Fish,Sish]
abbrev Tags:=Nat→Tg
structure RF where
 v:Value
 c:Value
 l:Int
instance:Inhabited RF:=⟨⟨.slice none 0 0,.slice none 0 0,0⟩⟩
def NoD(k:Nat):Prop:=False
def RFE:Elem RF where
 size:=3
 C:=fun _ _ c x=>c 0=x.v∧c 1=x.c∧c 2=.int .i64 x.l∧x.v.oneCell'=true∧x.c.oneCell'=true
 stays:=fun _ _ _ h=>h
 congr:=fun h e=>⟨(e 0 (by omega)).trans h.1,(e 1 (by omega)).trans h.2.1,(e 2 (by omega)).trans h.2.2.1,h.2.2.2⟩
 one:=fun h i hi=>by
  match i,hi with
  | 0,_=>rw [h.1];exact h.2.2.2.1
  | 1,_=>rw [h.2.1];exact h.2.2.2.2
  | 2,_=>rw [h.2.2.1];rfl
def PtrE:Elem Nat where
 size:=1
 C:=fun _ _ c x=>c 0=.pointer (some ⟨x,0,none⟩)
 stays:=fun _ _ _ h=>h
 congr:=fun h e=>(e 0 (by omega)).trans h
 one:=fun h i hi=>by
  obtain rfl:i=0:=by omega
  rw [h];rfl
theorem TDclI:RowT Tryz.prog 26 54 (.agg #[.string ⟨#[]⟩,.int .u8 0,.int .i64 0]) 3 32:=⟨Tryz.underlying26,by kernel_rfl⟩
theorem TPtrI:RowT Tryz.prog 207 214 (.pointer none) 1 8:=⟨Tryz.underlying207,by kernel_rfl⟩
theorem TRFI:RowT Tryz.prog 210 209 (.agg #[.slice none 0 0,.slice none 0 0,.int .i64 0]) 3 56:=⟨Tryz.underlying210,by kernel_rfl⟩
theorem TIntI:RowT Tryz.prog 57 3 (.int .i64 0) 1 8:=⟨Tryz.underlying57,by kernel_rfl⟩
variable {α:Type} [Inhabited α]
theorem RowsOwn.elem {E:Elem α} (hsz:0 < E.size) {e:Nat} {D:Nat→Prop} {base:Nat} {w:World} {v:Value} {l:List α} (h:RowsOwn E e D base w v l) {j:Nat} (hj:j < l.length):
 ∃ g cap cs,v=.slice (some ⟨g,0,none⟩) l.length cap∧l.length≤cap∧g < w.heap.size∧(∀ i,w.frozen? ⟨g,i,none⟩=false)∧(∀ i,i < E.size→w.cell? ⟨g,j * E.size+i,none⟩=some (cs i))∧E.C (fun k=>D k∧v.ownBlock≠some k) w cs (at' l j):=by
 obtain ⟨xs,hr,hf⟩:=h
 have hr':=hr
 obtain ⟨h0,⟨rfl,hn⟩|⟨g,cap,cur,rfl,hg,hh,hn,hm,hs,ht⟩⟩:=hr
 · omega
 · have hmul:∀ i,i < E.size→j * E.size+i < l.length * E.size:=fun i hi=>by
    calc j * E.size+i < j * E.size+E.size:=by omega
     _=(j+1) * E.size:=by rw [Nat.add_mul,Nat.one_mul]
     _≤l.length * E.size:=Nat.mul_le_mul_right _ hj
   refine ⟨g,cap,fun i=>vat xs (j * E.size+i),rfl,hn,(hr'.lt g rfl).2,fun i=>hr'.frozenAt i,fun i hi=>?_,hf j hj⟩
   have hlt:=hmul i hi
   rw [hr'.cellAt (j * E.size+i) (by omega)]
   simp only [vat,List.getD_eq_getElem?_getD]
   rw [List.getElem?_eq_getElem (by omega)];rfl
theorem RowsOwn.setC {E:Elem α} {e:Nat} {D:Nat→Prop} {base:Nat} {w:World} {g n cap:Nat} {l:List α} (h:RowsOwn E e D base w (.slice (some ⟨g,0,none⟩) n cap) l) {j i:Nat} (hj:j < l.length) (hi:i < E.size) {x:Value} {y:α}
 (hE:∀ A w' (c:Nat→Value),E.C A w' c (at' l j)→E.C A w' (fun k=>if k=i then x else c k) y):
 RowsOwn E e D base (w.setCell ⟨g,j * E.size+i,none⟩ x) (.slice (some ⟨g,0,none⟩) n cap) (l.set j y):=by
 obtain ⟨xs,hr,hf⟩:=h
 obtain ⟨_,_,he⟩:=zas hr
 simp only [Value.slice.injEq] at he
 obtain ⟨-,rfl,-⟩:=he
 have hr':w.ownsRow base e E.size (.slice (some ⟨g,0,none⟩) l.length cap) l.length xs:=hr
 have hmul:∀ p q i,p < q→i < E.size→p * E.size+i < q * E.size:=fun p q i hp hi=>by
  calc p * E.size+i < p * E.size+E.size:=by omega
   _=(p+1) * E.size:=by rw [Nat.add_mul,Nat.one_mul]
   _≤q * E.size:=Nat.mul_le_mul_right _ hp
 have hxl:=hr'.1
 have r1:=zbu hr' (j * E.size+i) x (hmul _ _ _ hj hi)
 refine ⟨xs.set (j * E.size+i) x,by rw [List.length_set];exact r1,fun q hq=>?_⟩
 rw [List.length_set] at hq
 have hK:=zaf w g (j * E.size+i) x
 have hst:Stays (fun k=>D k∧(Value.slice (some ⟨g,0,none⟩) l.length cap).ownBlock≠some k) (fun k=>D k∧(Value.slice (some ⟨g,0,none⟩) l.length cap).ownBlock≠some k) w (w.setCell ⟨g,j * E.size+i,none⟩ x):=
  hK.stays (fun k hk _ e=>hk.2 (by simp [Value.ownBlock,e]))
 have hv:∀ r,r < E.size→vat (xs.set (j * E.size+i) x) (q * E.size+r)=if q=j∧r=i then x else vat xs (q * E.size+r):=fun r hr2=>by
  have hlt:q * E.size+r < xs.length:=by rw [hxl];exact hmul _ _ _ hq hr2
  simp only [vat,List.getD_eq_getElem?_getD,List.getElem?_set]
  by_cases e:j * E.size+i=q * E.size+r
  · have e1:q=j∧r=i:=by
     rcases Nat.lt_trichotomy q j with h|h|h
     · have:=hmul q j r h hr2;omega
     · subst h;exact ⟨rfl,by omega⟩
     · have:=hmul j q i h hi;omega
    rw [if_pos e,if_pos e1,if_pos (by omega)];rfl
  · have e1:¬ (q=j∧r=i):=fun h=>e (by rw [h.1,h.2])
    rw [if_neg e,if_neg e1]
 by_cases e:q=j
 · subst e
   have h1:at' (l.set q y) q=y:=by simp [at',List.getD_eq_getElem?_getD,hq]
   rw [h1]
   refine E.congr (hE _ _ _ (E.stays hst (hf q hq))) fun r hr2=>?_
   rw [hv r hr2]
   by_cases e2:r=i
   · simp [e2]
   · simp [e2]
 · have h1:at' (l.set j y) q=at' l q:=by simp [at',List.getD_eq_getElem?_getD,show ¬ j=q from fun h=>e h.symm]
   rw [h1]
   refine E.congr (E.stays hst (hf q hq)) fun r hr2=>?_
   rw [hv r hr2,if_neg (fun h=>e h.1)]
theorem zhh{base e size:Nat}{n c:Nat}{xs:List Value}(h:w.ownsRow base e size (.slice a n c) n xs)(hm:m≤n):w.ownsRow base e size (.slice a m c) m (xs.take (m*size)):=by
 obtain⟨h0,⟨he,hn⟩|⟨g,cap,cur,he,hg,hh,hn,hc,hs,ht⟩⟩:=h;·simp only[Value.slice.injEq]at he;obtain⟨rfl,-,rfl⟩:=he;(obtain rfl:m=0:=by omega);exact⟨by simp,.inl ⟨rfl,rfl⟩⟩
 ·simp only[Value.slice.injEq]at he;obtain⟨rfl,-,rfl⟩:=he;have hms:m*size≤n*size:=Nat.mul_le_mul_right _ hm;refine⟨by rw[List.length_take,h0];omega,.inr ⟨g,c,cur,rfl,hg,hh,by omega,hc,hs,?_⟩⟩;rw[←ht,List.take_take,Nat.min_eq_left hms]
theorem RowsOwn.take {E:Elem α} {e:Nat} {D:Nat→Prop} {base:Nat} {w:World} {a:Option Addr} {n c:Nat} {l:List α} (h:RowsOwn E e D base w (.slice a n c) l) {m:Nat} (hm:m≤l.length):RowsOwn E e D base w (.slice a m c) (l.take m):=by
 obtain ⟨xs,hr,hf⟩:=h
 obtain ⟨_,_,he⟩:=zas hr
 simp only [Value.slice.injEq] at he
 obtain ⟨-,rfl,-⟩:=he
 have hl:(l.take m).length=m:=by rw [List.length_take];omega
 refine ⟨xs.take (m * E.size),by rw [hl];exact zhh hr hm,fun j hj=>?_⟩
 rw [hl] at hj
 have ho:(Value.slice a m c).ownBlock=(Value.slice a l.length c).ownBlock:=by cases a <;> rfl
 rw [ho]
 have h1:at' (l.take m) j=at' l j:=by simp [at',List.getD_eq_getElem?_getD,List.getElem?_take,hj]
 rw [h1]
 refine E.congr (hf j (by omega)) fun i hi=>?_
 have hlt:j * E.size+i < m * E.size:=by
  calc j * E.size+i < j * E.size+E.size:=by omega
   _=(j+1) * E.size:=by rw [Nat.add_mul,Nat.one_mul]
   _≤m * E.size:=Nat.mul_le_mul_right _ hj
 simp only [vat,List.getD_eq_getElem?_getD,List.getElem?_take,if_pos hlt]
theorem Own.take{base e:Nat}{n c:Nat}{l:List Int}(h:Own w base e (.slice a n c) l)(hm:m≤l.length):Own w base e (.slice a m c) (l.take m):=by
 obtain⟨h1,h2,h3⟩:=h;obtain⟨_,_,he⟩:=zas h3;simp only[Value.slice.injEq]at he;obtain⟨-,rfl,-⟩:=he;have hl:(l.take m).length=m:=by rw[List.length_take];omega
 refine⟨by rw[hl];omega,fun x hx=>h2 x (List.mem_of_mem_take hx),?_⟩;rw[hl,List.map_take];have:=zhh h3 hm;rwa[Nat.mul_one]at this
theorem Own.keeps{base e:Nat}{v:Value}{l:List Int}(h:Own w base e v l)(hk:Keeps w w' S)(hs:∀k,v.ownBlock=some k→¬S k):Own w' base e v l:=⟨h.1,h.2.1,zau h.2.2 hk hs⟩
theorem Own.lt{base e:Nat}{v:Value}{l:List Int}(h:Own w base e v l){k:Nat}(hk:v.ownBlock=some k):k<w.heap.size:=(h.2.2.lt k hk).2
structure CellAt (τ:Tags) (w:World) (c:Nat) (kind:Int) (l:List Int):Prop where
 ex:∃ iv,w.heap[c]?=some (.cells #[iv] 216 (0,0))∧Own w 0 3 iv l∧∀ k,iv.ownBlock=some k→τ k=.items c
 tg:τ c=.cell
 one:kind=1→l.length=1
 le:l.length≤1000
variable {F0:List RF}{rf:RF}{τ:Tags}{τ':Tags}{τ1:Tags}
theorem CellAt.lt{c:Nat}{l:List Int}(h:CellAt τ w c kind l):c<w.heap.size:=by obtain⟨iv,h1,_⟩:=h.ex;rw[Array.getElem?_eq_some_iff]at h1;exact h1.1
theorem CellAt.keeps{c:Nat}{l:List Int}(h:CellAt τ w c kind l)(hk:Keeps w w' S)(h1:¬S c)(h2:∀k,τ k=.items c→¬S k)(t1:τ' c=τ c)(t2:∀k,k<w.heap.size→τ k=.items c→τ' k=.items c):CellAt τ' w' c kind l:=by obtain⟨iv,e1,e2,e3⟩:=h.ex;exact⟨⟨iv,(hk.block c h.lt h1).trans e1,e2.keeps hk (fun k hk2=>h2 k (e3 k hk2)),fun k hk2=>t2 k (e2.lt hk2) (e3 k hk2)⟩,t1.trans h.tg,h.one,h.le⟩
structure Frm (τ:Tags) (w:World) (rf:RF) (vs:List Dcl) (cs:List Nat) (σ:Sto):Prop where
 vr:RowsOwn DclE 54 NoD 0 w rf.v vs
 vt:∀ k,rf.v.ownBlock=some k→τ k=.vars
 cr:RowsOwn PtrE 214 NoD 0 w rf.c cs
 ct:∀ k,rf.c.ownBlock=some k→τ k=.crow
 len:cs.length=vs.length
 nd:(vs.map Dcl.name).Nodup
 csn:cs.Nodup
 kd:∀ j,j < vs.length→(at' vs j).kind=1∨(at' vs j).kind=3
 cell:∀ j,j < vs.length→CellAt τ w (at' cs j) (at' vs j).kind (σ (at' vs j).name)
theorem Frm.keeps {τ τ':Tags} {w w':World} {rf:RF} {vs:List Dcl} {cs:List Nat} {σ:Sto} {S:Nat→Prop} (h:Frm τ w rf vs cs σ) (hk:Keeps w w' S) (h1:∀ k,Fish (τ k)→¬ S k) (t1:∀ k,k < w.heap.size→Fish (τ k)→τ' k=τ k):Frm τ' w' rf vs cs σ where
 vr:=h.vr.keeps hk (fun k e=>h1 k (by rw [h.vt k e];trivial)) (fun k _ a=>a.elim)
 vt:=fun k e=>(t1 k (h.vr.lt e).2 (by rw [h.vt k e];trivial)).trans (h.vt k e)
 cr:=h.cr.keeps hk (fun k e=>h1 k (by rw [h.ct k e];trivial)) (fun k _ a=>a.elim)
 ct:=fun k e=>(t1 k (h.cr.lt e).2 (by rw [h.ct k e];trivial)).trans (h.ct k e)
 len:=h.len
 nd:=h.nd
 csn:=h.csn
 kd:=h.kd
 cell:=fun j hj=>by
  have hc:=h.cell j hj
  exact hc.keeps hk (h1 _ (by rw [hc.tg];trivial)) (fun k e=>h1 k (by rw [e];trivial)) (t1 _ hc.lt (by rw [hc.tg];trivial)) (fun k hlt e=>(t1 k hlt (by rw [e];trivial)).trans e)
structure IC where
 R:Nat
 T:Nat
 tp:Value
 p:Prg
 va:Option Addr
 vc:Nat
 pa:Option Addr
 pc:Nat
 ka:Option Addr
 kc:Nat
 F:Int
structure SBase (C:IC) (τ:Tags) (w:World) (kv:Value) (F0:List RF) (rf:RF):Prop where
 sb:w.heap[C.T]?=some (.cells #[(at' (F0 ++ [rf]) 0).v,(at' (F0 ++ [rf]) 0).c,.int .i64 (at' (F0 ++ [rf]) 0).l,kv,C.tp] 212 (0,0))
 row:RowsOwn RFE 209 NoD 0 w kv (F0 ++ [rf]).tail
 kt:∀ k,kv.ownBlock=some k→τ k=.calls
 tT:τ C.T=.store
 fresh:∀ k,w.heap.size≤k→τ k=.oth
 le:F0.length≤100
variable {C:IC}
theorem SBase.lt(h:SBase C τ w kv F0 rf):C.T<w.heap.size:=by have h:=h.sb;rw[Array.getElem?_eq_some_iff]at h;exact h.1
theorem SBase.keeps {C:IC} {τ τ':Tags} {w w':World} {kv:Value} {F0:List RF} {rf:RF} {S:Nat→Prop} (h:SBase C τ w kv F0 rf) (hk:Keeps w w' S) (h1:∀ k,τ k=.store∨τ k=.calls→¬ S k) (t1:∀ k,k < w.heap.size→τ k=.store∨τ k=.calls→τ' k=τ k) (t2:∀ k,w'.heap.size≤k→τ' k=.oth):SBase C τ' w' kv F0 rf where
 sb:=(hk.block _ h.lt (h1 _ (.inl h.tT))).trans h.sb
 row:=h.row.keeps hk (fun k e=>h1 k (.inr (h.kt k e))) (fun k _ a=>a.elim)
 kt:=fun k e=>(t1 k (h.row.lt e).2 (.inr (h.kt k e))).trans (h.kt k e)
 tT:=(t1 _ h.lt (.inl h.tT)).trans h.tT
 fresh:=t2
 le:=h.le
def FAt(C:IC)(kv:Value)(F0:List RF)(b off:Nat):Prop:=F0=[]∧b=C.T∧off=0∨F0≠[]∧off=(F0.length-1)*3∧∃n c,kv=.slice (some ⟨b,0,none⟩) n c
theorem zhk(h:F0≠[])(rf:RF):(F0++[rf]).tail=F0.tail++[rf]:=by cases F0 with|nil=>exact absurd rfl h|cons a l=>rfl
theorem zbD(F0:List RF)(rf:RF):(F0++[rf]).tail.length=F0.length:=by simp
theorem zdB(h:F0≠[])(rf:RF):at' (F0++[rf]) 0=at' F0 0:=by cases F0 with|nil=>exact absurd rfl h|cons a l=>rfl
theorem zjS(h:F0≠[])(rf:RF):at' (F0++[rf]).tail (F0.length-1)=rf:=by cases F0 with|nil=>exact absurd rfl h|cons a l=>simp[at',List.getD_eq_getElem?_getD]
theorem zln(h:F0≠[])(rf y:RF):(F0++[rf]).tail.set (F0.length-1) y=(F0++[y]).tail:=by cases F0 with|nil=>exact absurd rfl h|cons a l=>simp
theorem SBase.place(h:SBase C τ w kv F0 rf):∃b off,FAt C kv F0 b off∧(τ b=.store∨τ b=.calls):=by
 by_cases h0:F0=[];·exact⟨C.T,0,.inl ⟨h0,rfl,rfl⟩,.inl h.tT⟩
 ·(have hl:F0.length-1<(F0++[rf]).tail.length:=by rw[zbD];have:=List.length_pos_iff.2 h0;omega);obtain⟨g,cap,cs,e,_⟩:=h.row.elem (by decide) hl;exact⟨g,_,.inr ⟨h0,rfl,_,_,e⟩,.inr (h.kt g (by rw[e];rfl))⟩
theorem SBase.cells(h:SBase C τ w kv F0 rf){b:Nat}(ha:FAt C kv F0 b off):w.cell? ⟨b,off,none⟩=some rf.v∧w.cell? ⟨b,off+1,none⟩=some rf.c∧w.cell? ⟨b,off+2,none⟩=some (.int .i64 rf.l)∧(∀i,w.frozen? ⟨b,i,none⟩=false)∧b<w.heap.size∧(τ b=.store∨τ b=.calls):=by
 rcases ha with⟨rfl,rfl,rfl⟩|⟨h0,rfl,n,c,rfl⟩;·exact⟨zae h.sb 0 rfl,zae h.sb 1 rfl,zae h.sb 2 rfl,unfrozen h.sb,h.lt,.inl h.tT⟩
 ·(have hl:F0.length-1<(F0++[rf]).tail.length:=by rw[zbD];have:=List.length_pos_iff.2 h0;omega);obtain⟨g,cap,cs,e,h1,h2,h3,h4,h5⟩:=h.row.elem (by decide) hl;simp only[Value.slice.injEq,Option.some.injEq,Addr.mk.injEq,true_and,and_true]at e;obtain⟨rfl,-,-⟩:=e;rw[zjS h0]at h5;obtain⟨e0,e1,e2,_⟩:=h5;have c0:=h4 0 (by decide);have c1:=h4 1 (by decide);have c2:=h4 2 (by decide);rw[e0]at c0;rw[e1]at c1;rw[e2]at c2;exact⟨c0,c1,c2,h3,h2,.inr (h.kt b rfl)⟩
theorem SBase.setF(h:SBase C τ w kv F0 rf){b:Nat}(ha:FAt C kv F0 b off){i:Nat}{x:Value}{rf':RF}(hi:i=0∧rf'={rf with v:=x}∧x.oneCell'=true∨i=1∧rf'={rf with c:=x}∧x.oneCell'=true∨i=2∧∃n,x=.int .i64 n∧rf'={rf with l:=n}):SBase C τ (w.setCell ⟨b,off+i,none⟩ x) kv F0 rf':=by
 have hk:=zaf w b (off+i) x;have hi3:i<3:=by omega
 rcases ha with⟨rfl,rfl,rfl⟩|⟨h0,rfl,n,c,rfl⟩;·have hs:=heap_setCell_same w C.T (0+i) _ _ x h.sb;refine⟨?_,?_,h.kt,h.tT,fun k hk2=>h.fresh k (Nat.le_trans hk.size hk2),h.le⟩;(·rw[hs];rcases hi with⟨rfl,rfl,_⟩|⟨rfl,rfl,_⟩|⟨rfl,n,rfl,rfl⟩<;>simp[at',List.setIfInBounds_toArray]);·refine RowsOwn.keeps (l:=([]++[rf']:List RF).tail) ?_ hk (fun k e e2=>?_) (fun k _ a=>a.elim);(·exact h.row);·have:=h.kt k e;rw[e2,h.tT]at this;cases this
 ·(have hl:F0.length-1<(F0++[rf]).tail.length:=by rw[zbD];have:=List.length_pos_iff.2 h0;omega);have hb:τ b=.calls:=h.kt b rfl;(have hbT:C.T≠b:=fun e=>by rw[←e,h.tT]at hb;cases hb);have hr:=h.row.setC (E:=RFE) hl (i:=i) hi3 (x:=x) (y:=rf') (fun A w' c hc=>by rw[zjS h0]at hc;obtain⟨e0,e1,e2,o0,o1⟩:=hc;rcases hi with⟨rfl,rfl,hx⟩|⟨rfl,rfl,hx⟩|⟨rfl,n,rfl,rfl⟩;(·exact⟨rfl,e1,e2,hx,o1⟩);(·exact⟨e0,rfl,e2,o0,hx⟩);·exact⟨e0,e1,rfl,o0,o1⟩);rw[zln h0]at hr;refine⟨?_,hr,h.kt,h.tT,fun k hk2=>h.fresh k (Nat.le_trans hk.size hk2),h.le⟩;rw[hk.block C.T h.lt hbT,h.sb,zdB h0,zdB h0]
structure SSt (C:IC) (τ:Tags) (w:World) (kv:Value) (F0:List RF) (rf:RF) (vs:List Dcl) (cs:List Nat) (σ:Sto):Prop where
 base:SBase C τ w kv F0 rf
 fr:Frm τ w rf vs cs σ
theorem SSt.keeps{σ:Sto}(h:SSt C τ w kv F0 rf vs cs σ)(hk:Keeps w w' S)(h1:∀k,Sish (τ k)→¬S k)(t1:∀k,k<w.heap.size→Sish (τ k)→τ' k=τ k)(t2:∀k,w'.heap.size≤k→τ' k=.oth):SSt C τ' w' kv F0 rf vs cs σ:=⟨h.base.keeps hk (fun k e=>h1 k (by rcases e with e|e<;>(rw[e];trivial))) (fun k hlt e=>t1 k hlt (by rcases e with e|e<;>(rw[e];trivial))) t2,h.fr.keeps hk (fun k e=>h1 k e.s) (fun k hlt e=>t1 k hlt e.s)⟩
theorem SSt.below{σ:Sto}(h:SSt C τ w kv F0 rf vs cs σ)(hb:Below w.heap.size w w'):SSt C τ w' kv F0 rf vs cs σ:=h.keeps (Keeps.of_below (fun _=>False) hb) (fun _ _ e=>e) (fun _ _ _=>rfl) (fun k hk=>h.base.fresh k (Nat.le_trans hb.size hk))
structure SUpd (τ:Tags) (w:World) (τ':Tags) (w':World):Prop where
 keeps:Keeps w w' (fun k=>Sish (τ k))
 tags:∀ k,k < w.heap.size→¬ Sish (τ k)→τ' k=τ k
theorem SUpd.refl(τ:Tags)(w:World):SUpd τ w τ w:=⟨Keeps.refl _ _,fun _ _ _=>rfl⟩
theorem SUpd.trans {τ τ1 τ2:Tags} {w w1 w2:World} (h:SUpd τ w τ1 w1) (k:SUpd τ1 w1 τ2 w2):SUpd τ w τ2 w2 where
 keeps:=⟨k.keeps.os.trans h.keeps.os,k.keeps.tape.trans h.keeps.tape,k.keeps.output.trans h.keeps.output,Nat.le_trans h.keeps.size k.keeps.size,fun b hb hn=>by
  have e:=h.tags b hb hn
  exact (k.keeps.block b (Nat.lt_of_lt_of_le hb h.keeps.size) (by rw [e];exact hn)).trans (h.keeps.block b hb hn)⟩
 tags:=fun b hb hn=>by
  have e:=h.tags b hb hn
  exact (k.tags b (Nat.lt_of_lt_of_le hb h.keeps.size) (by rw [e];exact hn)).trans e
theorem SUpd.below(h:SUpd τ w τ1 w1)(hb:Below w1.heap.size w1 w2):SUpd τ w τ1 w2:=h.trans ⟨Keeps.of_below _ hb,fun _ _ _=>rfl⟩
theorem SUpd.ofBelow(hb:Below w.heap.size w w2):SUpd τ w τ w2:=(SUpd.refl τ w).below hb
def failV(c:Int):PanicEntry:={v:=.iface 219 (.agg #[.int .i64 c]),recovered:=false}
def runB(C:IC)(k:Int)(ev:Value):Array Value:=#[.slice C.va C.p.vars.length C.vc,.slice C.pa C.p.procs.length C.pc,.int .u8 C.p.main.kind,.int .i64 C.p.main.num,.string C.p.main.name,.slice C.ka C.p.main.kids.length C.kc,.pointer (some ⟨C.T,0,none⟩),.int .i64 k,.int .i64 C.F,ev]
structure HSt (C:IC) (τ:Tags) (w:World) (kv:Value) (F0:List RF) (rf:RF) (vs:List Dcl) (cs:List Nat) (s:XS):Prop where
 st:SSt C τ w kv F0 rf vs cs s.σ
 rb:∃ ev,w.heap[C.R]?=some (.cells (runB C s.k ev) 175 (0,0))∧Own w 0 3 ev s.ent∧∀ k,ev.ownBlock=some k→τ k=.ent
 tR:τ C.R=.run
 data:PrgAt (fun k=>τ k=.oth) w C.va C.vc C.pa C.pc C.ka C.kc C.p
 kb:0≤s.k∧s.k≤1000000∧C.F≤1000000
 eb:∀ x ∈ s.ent,0≤x∧x≤s.k
 el:s.ent.length=C.p.procs.length
structure HUpd (τ:Tags) (w:World) (τ':Tags) (w':World):Prop where
 keeps:Keeps w w' (fun k=>τ k≠.oth)
 tags:∀ k,k < w.heap.size→τ k=.oth→τ' k=.oth
theorem HUpd.refl(τ:Tags)(w:World):HUpd τ w τ w:=⟨Keeps.refl _ _,fun _ _ h=>h⟩
theorem HUpd.trans {τ τ1 τ2:Tags} {w w1 w2:World} (h:HUpd τ w τ1 w1) (k:HUpd τ1 w1 τ2 w2):HUpd τ w τ2 w2 where
 keeps:=⟨k.keeps.os.trans h.keeps.os,k.keeps.tape.trans h.keeps.tape,k.keeps.output.trans h.keeps.output,Nat.le_trans h.keeps.size k.keeps.size,fun b hb hn=>by
  have e0:τ b=.oth:=Classical.byContradiction hn
  have e:=h.tags b hb e0
  exact (k.keeps.block b (Nat.lt_of_lt_of_le hb h.keeps.size) (fun x=>x e)).trans (h.keeps.block b hb hn)⟩
 tags:=fun b hb hn=>k.tags b (Nat.lt_of_lt_of_le hb h.keeps.size) (h.tags b hb hn)
theorem SUpd.h(h:SUpd τ w τ' w'):HUpd τ w τ' w':=⟨h.keeps.mono (fun k e e2=>by rw[e2]at e;exact e),fun k hk e=>by rw[h.tags k hk (by rw[e];exact id)];exact e⟩
theorem HUpd.ofBelow(hb:Below w.heap.size w w2):HUpd τ w τ w2:=(SUpd.ofBelow hb).h
theorem HUpd.below(h:HUpd τ w τ1 w1)(hb:Below w1.heap.size w1 w2):HUpd τ w τ1 w2:=h.trans (HUpd.ofBelow hb)
theorem HUpd.stays(h:HUpd τ w τ' w'):Stays (fun k=>τ k=.oth) (fun k=>τ' k=.oth) w w':=⟨h.keeps.size,fun b hb e=>⟨h.keeps.block b hb (fun x=>x e),h.tags b hb e⟩⟩
theorem HSt.rlt{s:XS}(h:HSt C τ w kv F0 rf vs cs s):C.R<w.heap.size:=by obtain⟨ev,h,_⟩:=h.rb;rw[Array.getElem?_eq_some_iff]at h;exact h.1
theorem HSt.store {C:IC} {τ τ':Tags} {w w':World} {kv kv':Value} {F0:List RF} {rf rf':RF} {vs vs':List Dcl} {cs cs':List Nat} {s:XS} {σ':Sto} (h:HSt C τ w kv F0 rf vs cs s) (hu:SUpd τ w τ' w') (hs:SSt C τ' w' kv' F0 rf' vs' cs' σ'):HSt C τ' w' kv' F0 rf' vs' cs' { s with σ:=σ' }:=by
 obtain ⟨ev,e1,e2,e3⟩:=h.rb
 have n1:¬ Sish (τ C.R):=by rw [h.tR];exact id
 have n2:∀ k,ev.ownBlock=some k→¬ Sish (τ k):=fun k e=>by rw [e3 k e];exact id
 exact { h with
  st:=hs
  rb:=⟨ev,(hu.keeps.block _ h.rlt n1).trans e1,e2.keeps hu.keeps n2,fun k e=>(hu.tags k (e2.lt e) (n2 k e)).trans (e3 k e)⟩
  tR:=(hu.tags _ h.rlt n1).trans h.tR
  data:=h.data.stays hu.h.stays }
theorem HSt.below{s:XS}(h:HSt C τ w kv F0 rf vs cs s)(hb:Below w.heap.size w w'):HSt C τ w' kv F0 rf vs cs s:=h.store (SUpd.ofBelow hb) (h.st.below hb)
theorem HSt.step {C:IC} {τ:Tags} {w:World} {kv:Value} {F0:List RF} {rf:RF} {vs:List Dcl} {cs:List Nat} {s:XS} (h:HSt C τ w kv F0 rf vs cs s) (hk:s.k < C.F):HSt C τ (w.setCell ⟨C.R,7,none⟩ (.int .i64 (s.k+1))) kv F0 rf vs cs { s with k:=s.k+1 }∧HUpd τ w τ (w.setCell ⟨C.R,7,none⟩ (.int .i64 (s.k+1))):=by
 obtain ⟨ev,e1,e2,e3⟩:=h.rb
 have hK:=zaf w C.R 7 (.int .i64 (s.k+1))
 have nS:∀ k,Sish (τ k)→¬ k=C.R:=fun k e e2=>by rw [e2,h.tR] at e;exact e
 have hu:HUpd τ w τ (w.setCell ⟨C.R,7,none⟩ (.int .i64 (s.k+1))):=⟨hK.mono (fun k e e2=>by rw [e,h.tR] at e2;cases e2),fun _ _ e=>e⟩
 refine ⟨{ h with
  st:=h.st.keeps hK nS (fun _ _ _=>rfl) (fun k hk2=>h.st.base.fresh k (Nat.le_trans hK.size hk2))
  rb:=⟨ev,?_,e2.keeps hK (fun k e e4=>by have:=e3 k e;rw [e4,h.tR] at this;cases this),e3⟩
  data:=h.data.stays hu.stays
  kb:=⟨by have:=h.kb;simp only;omega,by have:=h.kb;simp only;omega,h.kb.2.2⟩
  eb:=fun x hx=>by have:=h.eb x hx;simp only;omega },hu⟩
 rw [heap_setCell_same w C.R 7 _ _ _ e1];rfl
def HPost(C:IC)(τ:Tags)(w:World)(F0:List RF)(vs:List Dcl)(cs:List Nat)(l:Int)(r:IR)(e:Ending)(w':World):Prop:=match r with|.ok s'=>e=.returned (.tuple #[])∧∃τ' kv' rf',rf'.l=l∧HSt C τ' w' kv' F0 rf' vs cs s'∧HUpd τ w τ' w'|.error c=>e=.panicked [failV c]∧Keeps w w' (fun k=>τ k≠.oth)
theorem fail_any(c:Int)(w:World)(hc:c≠0):Calls Tryz.prog 215 #[.int .i64 c] w fun e w'=>e=.panicked [failV c]∧w'=w:=by
 have d0:(c==0)=false:=by simp[hc]
 go_enter Tryz.func215,Tryz.ntmps215;go_wp2;exact⟨rfl,rfl,rfl⟩
theorem checkI_any(b:Nat)(c:Int)(w:World):Calls Tryz.prog 190 #[.pointer (some ⟨b,0,none⟩),.int .i64 c] w fun e w'=>(e=if c=0 then .returned (.tuple #[])else .panicked [failV c])∧w'=w:=by
 by_cases hc:c=0;·(have d0:(c !=0)=false:=by simp[hc]);go_enter Tryz.func190,Tryz.ntmps190;go_wp2;go_end0;exact⟨rfl,rfl⟩
 ·(have d0:(c !=0)=true:=by simp[hc]);have HF:=Lib.hid (fail_any c w hc);go_enter Tryz.func190,Tryz.ntmps190;go_wp2_with(go_at_call 215;refine HF.out.mono ?_;rintro e w'⟨rfl,rfl⟩);exact⟨rfl,rfl,rfl⟩
theorem zei(x:Int)(h:-9223372036854775808≤x∧x≤9223372036854775807):IntKind.i64.wrap x=x:=by rw[IntKind.wrap_i64];omega
theorem step_any(C:IC)(τ:Tags)(w:World)(kv:Value)(F0:List RF)(rf:RF)(vs:List Dcl)(cs:List Nat)(s:XS)(h:HSt C τ w kv F0 rf vs cs s):Calls Tryz.prog 189 #[.pointer (some ⟨C.R,0,none⟩)] w fun e w'=>if C.F≤s.k then e=.panicked [failV 18]∧Below w.heap.size w w' else e=.returned (.tuple #[])∧∃w1,Below w.heap.size w w1∧w'=w1.setCell ⟨C.R,7,none⟩ (.int .i64 (s.k+1)):=by
 obtain⟨ev,e1,_⟩:=h.rb;have c7:w.cell? ⟨C.R,7,none⟩=some (.int .i64 s.k):=zae e1 7 rfl;have c8:w.cell? ⟨C.R,8,none⟩=some (.int .i64 C.F):=zae e1 8 rfl;have hf:=unfrozen e1;have hw:=Lib.hid (zei (s.k+1) (by have:=h.kb;omega));by_cases hk:C.F≤s.k;·(have d0:decide (C.F≤s.k)=true:=by simp[hk]);have HF:=Lib.hid (fun w=>fail_any 18 w (by decide));clear e1 h;go_enter Tryz.func189,Tryz.ntmps189;go_wp2;go_quiet(fail);go_wp2_with(go_at_call 215;refine(HF.out _).mono ?_;rintro e w'⟨rfl,rfl⟩);exact⟨rfl,rfl,zak (Below.refl _ _) _⟩
 ·(have d0:decide (C.F≤s.k)=false:=by simp[hk]);have hw2:=hw.out;clear e1 h;go_enter Tryz.func189,Tryz.ntmps189;go_wp2;go_quiet(fail);go_wp2;go_end0;exact⟨rfl,_,zak (Below.refl _ _) _,rfl⟩
def ixD:List Dcl→ByteArray→Int|[],_=>-1|d::l,s=>if 0≤ixD l s then ixD l s+1 else if d.name=s then 0 else-1
theorem zeR{l:List Dcl}{s:ByteArray}(h:∀d∈l,d.name≠s):ixD l s=-1:=by induction l with|nil=>rfl|cons d l ih=>rw[ixD,ih (fun e he=>h e (List.mem_cons_of_mem _ he)),if_neg (by omega),if_neg (h d (List.mem_cons_self ..))]
theorem zgY{l:List Dcl}{s:ByteArray}{k:Nat}(hk:k<l.length)(h1:(at' l k).name=s)(h2:∀j,k<j→j<l.length→(at' l j).name≠s):ixD l s=k:=by induction l generalizing k with|nil=>simp at hk|cons d l ih=>rw[ixD];cases k with|zero=>rw[zeR (l:=l) (s:=s) (fun e he=>by obtain⟨j,hj,rfl⟩:=List.mem_iff_getElem.1 he;have:=h2 (j+1) (by omega) (by simpa using hj);rwa[show at' (d::l) (j+1)=at' l j from by simp[at',List.getD_eq_getElem?_getD],zam hj]at this)];have h1':d.name=s:=h1;rw[if_neg (by omega),if_pos h1'];rfl|succ k=>(have e1:∀j,at' (d::l) (j+1)=at' l j:=fun j=>by simp[at',List.getD_eq_getElem?_getD]);rw[ih (k:=k) (by simpa using hk) (by rw[←e1];exact h1) (fun j hj hl=>by rw[←e1];exact h2 (j+1) (by omega) (by simpa using hl)),if_pos (by omega)];omega
theorem RowsOwn.lenle{α:Type} [Inhabited α]{E:Elem α}{base:Nat}{v:Value}{l:List α}(h:RowsOwn E e D base w v l):l.length≤maxLen:=by
 obtain⟨xs,⟨_,⟨_,hn⟩|⟨g,cap,cur,_,_,_,hn,hm,_,_⟩⟩,_⟩:=h;·unfold maxLen;omega
 ·omega
theorem zcX(hn:(vs.map Dcl.name).Nodup){i:Nat}(hi:i<vs.length)(hj:j<vs.length)(hij:i≠j):(at' vs i).name≠(at' vs j).name:=fun e=>by rw[zam hi,zam hj]at e;have:=(List.pairwise_iff_getElem.1 hn);rcases Nat.lt_or_gt_of_ne hij with h|h;(·exact this i j (by simpa using hi) (by simpa using hj) h (by simpa using e));·exact this j i (by simpa using hj) (by simpa using hi) h (by simpa using e.symm)
theorem zlG(hn:(vs.map Dcl.name).Nodup)(hj:j<vs.length):ixD vs (at' vs j).name=j:=zgY hj rfl (fun i h1 h2=>zcX hn h2 hj (by omega))
theorem find_I(b off:Nat)(l:List Dcl)(s:ByteArray)(va:Option Addr)(vc:Nat)(A:Nat→Prop)(w:World)(hv:RowsAt DclE A w (.slice va l.length vc) l)(c0:w.cell? ⟨b,off,none⟩=some (.slice va l.length vc)):Calls Tryz.prog 217 #[.pointer (some ⟨b,off,none⟩),.string s] w fun e w'=>e=.returned (.int .i64 (ixD l s))∧w'=w:=by
 have hlen:=hv.form.1;have HV:=Lib.hid hv;unfold maxLen at hlen;have hw1:IntKind.i64.wrap ((l.length:Int)-1)=(l.length:Int)-1:=by rw[IntKind.wrap_i64];omega
 clear hv;go_enter Tryz.func217,Tryz.ntmps217;go_wp2;go_loopw[5](fun i wr=>∃k:Nat,k≤l.length∧i=.int .i64 ((k:Int)-1)∧(∀j,k≤j→j<l.length→(at' l j).name≠s)∧wr=w)(fun i _=>(intOf i+1).toNat);case atStart=>exact⟨l.length,Nat.le_refl _,rfl,fun j h1 h2=>by omega,rfl⟩
 case round=>obtain⟨k,hkk,rfl,hno,rfl⟩:=hrel;have HNO:=Lib.hid hno;clear hno;by_cases hk0:0<k;(·obtain⟨k,rfl⟩:∃k',k=k'+1:=⟨k-1,by omega⟩;(have hlt:k<l.length:=by omega);(have hq:((k+1:Nat):Int)-1=(k:Int):=by omega);rw[hq];obtain⟨b',off',he,hb,d0,d1,d2⟩:=zay HV.out hlt;subst he;(have i0:(0:Int)≤(k:Int):=by omega);(have i1:(k:Int)<(l.length:Int):=by omega);by_cases heq:(at' l k).name=s;(·have HF:=Lib.hid (zgY hlt heq (fun j h1 h2=>HNO.out j (by omega) h2));(have he:((at' l k).name.toList==s.toList)=true:=by rw[heq];simp);clear heq;go_wp2;go_returns;rw[HF.out];exact⟨rfl,rfl⟩);·have he:((at' l k).name.toList==s.toList)=false:=beq_eq_false_iff_ne.2 (fun h=>heq (toList_inj h));have HQ:=Lib.hid heq;(have hw2:IntKind.i64.wrap ((k:Int)-1)=(k:Int)-1:=by rw[IntKind.wrap_i64];omega);clear heq;go_wp2;go_roundw;(case rel=>exact⟨k,by omega,rfl,fun j h1 h2=>(by by_cases e:j=k;(·rw[e];exact HQ.out);·exact HNO.out j (by omega) h2),trivial⟩);case measure=>simp[intOf]);·(obtain rfl:k=0:=by omega);have HF:=Lib.hid (zeR (l:=l) (s:=s) (fun d hd=>by obtain⟨j,hj,rfl⟩:=List.mem_iff_getElem.1 hd;have:=HNO.out j (Nat.zero_le _) hj;rwa[zam hj]at this));go_wp2;go_returns;rw[HF.out];exact⟨rfl,rfl⟩
theorem current_I(h:SBase C τ w kv F0 rf){b:Nat}(ha:FAt C kv F0 b off):Calls Tryz.prog 216 #[.pointer (some ⟨C.T,0,none⟩)] w fun e w'=>e=.returned (.pointer (some ⟨b,off,none⟩))∧w'=w:=by
 have hle:=h.le;obtain⟨a,c,e⟩:=h.row.form;rw[zbD]at e;have c3:=zae h.sb 3 rfl;rcases ha with⟨rfl,rfl,rfl⟩|⟨h0,rfl,n,c',e'⟩;·subst e;clear h;go_enter Tryz.func216,Tryz.ntmps216;go_wp2;go_ret;exact⟨rfl,rfl⟩
 ·rw[e']at e;simp only[Value.slice.injEq]at e;obtain⟨rfl,rfl,rfl⟩:=e;rw[e']at c3;have hp:=List.length_pos_iff.2 h0;(have hpi:(0:Int)<(F0.length:Int):=by omega);(have d0:decide ((0:Int)<(F0.length:Int))=true:=by simpa using hp);(have hw1:IntKind.i64.wrap ((F0.length:Int)-1)=(F0.length:Int)-1:=by rw[IntKind.wrap_i64];omega);(have i0:(0:Int)≤(F0.length:Int)-1:=by omega);(have i1:(F0.length:Int)-1<(F0.length:Int):=by omega);(have i2:((F0.length:Int)-1).toNat=F0.length-1:=by omega);clear h;go_enter Tryz.func216,Tryz.ntmps216;go_wp2;go_ret;exact⟨rfl,rfl⟩
inductive EIn (V:Vis):Nd→Prop
 | num (x:Int) (h:0≤x):EIn V (numN x)
 | var (s:ByteArray) (h:V s=some false):EIn V (vN s)
 | op (k:Int) (a b:Nd) (hk:8≤k∧k≤23) (ha:EIn V a) (hb:EIn V b):EIn V (nodeN k ByteArray.empty [a,b])
 | stk (k:Int) (s:ByteArray) (hk:k=4∨k=5) (h:V s=some true):EIn V (nodeN k s [])
def Indep(x:ByteArray)(e:Nd):Prop:=∀ap σ l,evE ap (Sto.put σ x l) e=evE ap σ e
def callI(k:Int)(p:ByteArray)(args:List ByteArray):Nd:=nodeN k p (args.map vN)
inductive SIn (P:ByteArray→Option (List Bool)):Vis→Nd→Prop
 | asg {V:Vis} (k:Int) (x:ByteArray) (e:Nd) (hk:k=40∨k=41∨k=42) (hx:V x=some false) (he:EIn V e) (hi:Indep x e):SIn P V (nodeN k ByteArray.empty [vN x,e])
 | loc {V:Vis} (t:ByteArray) (a c:Nd) (l:List Nd) (hn:NmOk t) (ht:V t=none) (ha:EIn V a) (hc:EIn V c) (hl:∀ s ∈ l,SIn P (V.put t false) s):SIn P V (nodeN 54 t [a,blockN l,c])
 | call {V:Vis} (k:Int) (p:ByteArray) (args:List ByteArray) (ks:List Bool) (hk:k=50∨k=51) (hp:P p=some ks) (hl:args.length=ks.length) (h8:args.length≤8) (ha:∀ i,i < args.length→V (at' args i)=some (at' ks i)) (hd:args.Nodup):SIn P V (callI k p args)
theorem zbj(ap:Int→Int→Int→Int×Int)(σ:Sto)(k num:Int)(name:ByteArray)(kids:List Nd)(hk:k=1∨k=2∨k=4∨k=5):evE ap σ (.mk k num name kids)=if k=1 then(num,0)else if k=2 then(hd (σ name),0)else if k=4 then(if σ name=[]then(0,13)else(lst (σ name),0))else(((σ name).length:Int),0):=by unfold evE;rcases hk with rfl|rfl|rfl|rfl<;>simp
theorem zgO(ap:Int→Int→Int→Int×Int)(σ:Sto)(k num:Int)(name:ByteArray)(a b:Nd)(hk:8≤k):evE ap σ (.mk k num name [a,b])=if(evE ap σ a).2≠0 then(0,(evE ap σ a).2)else if(evE ap σ b).2≠0 then(0,(evE ap σ b).2)else ap k (evE ap σ a).1 (evE ap σ b).1:=by rw[evE,if_neg (by omega),if_neg (by omega),if_neg (by omega),if_neg (by omega)]
theorem clone_I(v:Value)(l:List Int)(w:World)(hv:IntsAt w v l)(hl:l.length≤10000000):Calls Tryz.prog 105 #[v] w fun e w'=>∃v',e=.returned v'∧Below w.heap.size w w'∧Own w' w.heap.size 3 v' l:=by obtain⟨a,c,rfl⟩:=hv.form;cases a with|none=>obtain⟨_,_,a,c',e,hn,hc⟩:=hv;simp only[Value.slice.injEq]at e;obtain⟨rfl,-,rfl⟩:=e;have hl0:=hn rfl;(have hnil:l=[]:=by refine List.eq_nil_of_length_eq_zero ?_;by_cases h0:0<l.length;(·obtain⟨b,off,e,_⟩:=hc h0;cases e);·omega);subst hnil;obtain rfl:c=0:=hl0;have heq:=fun(w:World)=>Lib.run_eql_slice_nil (P:=Tryz.prog) w 57 3 none 0 0 0 0 Tryz.underlying57;clear hc;go_enter Tryz.func105,Tryz.ntmps105;go_wp2;go_ret;exact⟨_,rfl,Below.refl _ _,Own.nil _ _ _⟩|some ad=>have hB:Below w.heap.size w (w.alloc (.cells #[] 3)):=(Below.refl _ _).alloc (Nat.le_refl _) _;have HV:Hid (IntsAt (w.alloc (.cells #[] 3)) (.slice (some ad) l.length c) l):=Lib.hid (hv.below hB);have HRW:Hid (Own (w.alloc (.cells #[] 3)) w.heap.size 3 (.slice (some ⟨w.heap.size,0,none⟩) 0 0) []):=Lib.hid (zjA w w.heap.size 3 [] (by simp) (by intro x hx;simp at hx) (Nat.le_refl _));have heq:=fun(w:World)=>Lib.run_eql_slice_nil (P:=Tryz.prog) w 57 3 (some ad) l.length c 0 0 Tryz.underlying57;clear hv;go_enter Tryz.func105,Tryz.ntmps105;go_wp2_with(at_builtin;refine zgE TIntI rfl (.tmp 5) (.tmp 6) rfl rfl rfl HRW.out HV.out (by simp;omega) (by simp) ?_;intro v' w2 hown hg hn;have HO:=Lib.hid hown;have HG:Hid ((w.alloc (.cells #[] 3)).grownBy w2 (some w.heap.size)):=Lib.hid hg;clear hown hg hn);go_ret;refine⟨_,rfl,hB.grown HG.out (by simp) (fun k e=>by(have e2:w.heap.size=k:=by simpa using e);omega),?_⟩;have:=HO.out;rwa[List.nil_append]at this
theorem zer{l:List Int}(h:0<l.length):hd l=nth l 0:=by cases l with|nil=>simp at h|cons a l=>rfl
theorem zjn{l:List Int}(h:0<l.length):lst l=nth l (l.length-1):=by rw[lst,nth,List.getLastD_eq_getLast?,List.getLast?_eq_getElem?]
structure LookAt (fv:Value) (σ:Sto) (V:Vis) (w0:World) (K:Nat) (r:Value):Prop where
 eq:fv=.func (.func K) #[r] #[]
 ent:∀ (args:Array Value) (w:World),(callFunc K args).run Tryz.prog w=.ok (.enter K args) w
 call:∀ (w1:World) (s:ByteArray) (b:Bool),Below w0.heap.size w0 w1→V s=some b→Calls Tryz.prog K #[r,.string s] w1 fun e w'=>∃ a c,e=.returned (.tuple #[.slice a (σ s).length c,.bool true])∧Below w1.heap.size w1 w'∧IntsAt w' (.slice a (σ s).length c) (σ s)
 one:∀ s,V s=some false→(σ s).length=1
theorem LookAt.below{fv:Value}{σ:Sto}{V:Vis}{w0:World}{K:Nat}{r:Value}(h:LookAt fv σ V w0 K r)(hb:Below w0.heap.size w0 w1):LookAt fv σ V w1 K r:=⟨h.eq,h.ent,fun w2 s b hb2 hv=>h.call w2 s b (hb.trans (hb2.mono hb.size)) hv,h.one⟩
theorem zcp{n c:Nat}{l:List Int}(h:IntsAt w (.slice a n c) l)(hj:j<l.length):∃b off,a=some ⟨b,off,none⟩∧w.cell? ⟨b,off+j,none⟩=some (.int .i64 (nth l j))∧In64 (nth l j):=by obtain⟨_,hf,a',c',e,_,hc⟩:=h;simp only[Value.slice.injEq]at e;obtain⟨rfl,-,rfl⟩:=e;obtain⟨b,off,rfl,_,hcell⟩:=hc (by omega);exact⟨b,off,rfl,hcell j hj,hf _ (zeU hj)⟩
def EvP(σ:Sto)(n:Nd)(w:World)(e:Ending)(w':World):Prop:=e=.returned (.tuple #[.int .i64 (evE apI σ n).1,.int .i64 (evE apI σ n).2])∧Below w.heap.size w w'
theorem Own.set{base e:Nat}{g n c:Nat}{l:List Int}(h:Own w base e (.slice (some ⟨g,0,none⟩) n c) l)(hj:j<l.length){x:Int}(hx:In64 x):Own (w.setCell ⟨g,j,none⟩ (.int .i64 x)) base e (.slice (some ⟨g,0,none⟩) n c) (l.set j x):=by
 obtain⟨h1,h2,h3⟩:=h;obtain⟨_,_,he⟩:=zas h3;simp only[Value.slice.injEq]at he;obtain⟨-,rfl,-⟩:=he;refine⟨by rw[List.length_set];exact h1,fun y hy=>?_,?_⟩;·rcases List.mem_or_eq_of_mem_set hy with hy|rfl;(·exact h2 y hy);·exact hx
 ·rw[List.length_set,List.map_set];exact zbu h3 j _ (by omega)
theorem Own.cell1{base e:Nat}{g n c:Nat}{l:List Int}(h:Own w base e (.slice (some ⟨g,0,none⟩) n c) l)(hj:j<l.length):w.cell? ⟨g,j,none⟩=some (.int .i64 (nth l j))∧w.frozen? ⟨g,j,none⟩=false∧g<w.heap.size:=by obtain⟨b,off,e,hc,_⟩:=zcp h.ints hj;simp only[Option.some.injEq,Addr.mk.injEq,and_true]at e;obtain⟨rfl,rfl⟩:=e;rw[Nat.zero_add]at hc;obtain⟨g',cap,e2,h1,h2,_⟩:=znC h.2.2 (by omega);simp only[Value.slice.injEq,Option.some.injEq,Addr.mk.injEq,and_true]at e2;obtain⟨rfl,-,-⟩:=e2;exact⟨hc,h2 j,h1⟩
theorem variable_I(fv:Value)(σ:Sto)(V:Vis)(w:World)(K:Nat)(r:Value)(n:Nd)(v:Value)(A:Nat→Prop)(hl:LookAt fv σ V w K r)(hv:NdAt A w v n)(hk:n.kind=2∧V n.name=some false∨(n.kind=4∨n.kind=5)∧V n.name=some true):Calls Tryz.prog 246 #[v,fv] w (EvP σ n w):=by
 obtain⟨hok,hlen,ka,kc,rfl,hkk⟩:=hv.open;obtain⟨rfl,hent,hcall,hone⟩:=hl;obtain⟨kd,num,name,kids⟩:=n;simp only[Nd.kind,Nd.num,Nd.name,Nd.kids]at*;have hB:Below w.heap.size w (w.alloc (.cells #[.int .u8 kd,.int .i64 num,.string name,.slice ka kids.length kc] 30)):=zaa (Below.refl _ _);obtain⟨n0,n1,n2,n3⟩:=cells4 (zag w (.cells #[.int .u8 kd,.int .i64 num,.string name,.slice ka kids.length kc] 30));obtain⟨b,hb⟩:∃b,V name=some b:=by rcases hk with⟨_,h⟩|⟨_,h⟩;(·exact⟨_,h⟩);·exact⟨_,h⟩
 have HC:=Lib.hid (hcall _ name b hB hb);have henter:=hent #[r,.string name];have HX:=Lib.hid (zbj apI σ kd num name kids (by omega));have HEV:Hid (EvP σ (.mk kd num name kids) w=fun e w'=>e=.returned (.tuple #[.int .i64 (evE apI σ (.mk kd num name kids)).1,.int .i64 (evE apI σ (.mk kd num name kids)).2])∧Below w.heap.size w w'):=Lib.hid rfl;rw[HEV.out,HX.out];rcases hk with⟨rfl,hb1⟩|⟨rfl|rfl,_⟩;·have HL:=Lib.hid (hone name hb1);have HR:Hid ((if(2:Int)=1 then(num,(0:Int))else if(2:Int)=2 then(hd (σ name),0)else if(2:Int)=4 then(if σ name=[]then(0,13)else(lst (σ name),0))else(((σ name).length:Int),0))=(nth (σ name) 0,0)):=Lib.hid (by rw[if_neg (by decide),if_pos rfl,zer (by rw[HL.out];decide)]);rw[HR.out];clear hcall hone hb hv hkk hb1 hok;go_enter Tryz.func246,Tryz.ntmps246;go_wp2_with fail;refine HC.out.mono ?_;rintro e w2⟨a,c,rfl,hb2,hi⟩;obtain⟨b',off',rfl,hcell,hin⟩:=zcp hi (j:=0) (by rw[HL.out];decide);rw[Nat.add_zero]at hcell;have HB2:=Lib.hid (zab hb2 hB);have hm0:=(hb2.cell (p:=⟨w.heap.size,0,none⟩) (by simp)).trans n0;have hl1:=HL.out;rw[hl1];clear hi hb2 hl1;go_wp2;go_ret2;exact⟨rfl,HB2.out⟩
 ·by_cases h0:σ name=[];(·have HR:Hid ((if(4:Int)=1 then(num,(0:Int))else if(4:Int)=2 then(hd (σ name),0)else if(4:Int)=4 then(if σ name=[]then(0,13)else(lst (σ name),0))else(((σ name).length:Int),0))=(0,13)):=Lib.hid (by simp[h0]);have HD:Hid ((σ name).length=0):=Lib.hid (by rw[h0];rfl);rw[HR.out];clear hcall hone hb hv hkk hok h0;go_enter Tryz.func246,Tryz.ntmps246;go_wp2_with fail;refine HC.out.mono ?_;rintro e w2⟨a,c,rfl,hb2,hi⟩;have hm0:=(hb2.cell (p:=⟨w.heap.size,0,none⟩) (by simp)).trans n0;have HB2:=Lib.hid (zab hb2 hB);rw[HD.out];clear hi hb2;go_wp2;go_ret2;exact⟨rfl,HB2.out⟩);·have hp:0<(σ name).length:=List.length_pos_iff.2 h0;have HR:Hid ((if(4:Int)=1 then(num,(0:Int))else if(4:Int)=2 then(hd (σ name),0)else if(4:Int)=4 then(if σ name=[]then(0,13)else(lst (σ name),0))else(((σ name).length:Int),0))=(nth (σ name) ((σ name).length-1),0)):=Lib.hid (by simp[h0,zjn hp]);rw[HR.out];(have d0:(((σ name).length:Int)==0)=false:=by simp;exact h0);(have i0:(0:Int)≤((σ name).length:Int)-1:=by omega);(have i1:((σ name).length:Int)-1<((σ name).length:Int):=by omega);(have i2:(((σ name).length:Int)-1).toNat=(σ name).length-1:=by omega);clear hcall hone hb hv hkk hok h0;go_enter Tryz.func246,Tryz.ntmps246;go_wp2_with fail;refine HC.out.mono ?_;rintro e w2⟨a,c,rfl,hb2,hi⟩;have hm0:=(hb2.cell (p:=⟨w.heap.size,0,none⟩) (by simp)).trans n0;have HB2:=Lib.hid (zab hb2 hB);obtain⟨b',off',rfl,hcell,hin⟩:=zcp hi (j:=(σ name).length-1) (by omega);have hle:=hi.1;(have hw1:IntKind.i64.wrap (((σ name).length:Int)-1)=((σ name).length:Int)-1:=by rw[IntKind.wrap_i64];omega);clear hi hb2 hle;go_wp2;go_ret2;exact⟨rfl,HB2.out⟩
 ·have HR:Hid ((if(5:Int)=1 then(num,(0:Int))else if(5:Int)=2 then(hd (σ name),0)else if(5:Int)=4 then(if σ name=[]then(0,13)else(lst (σ name),0))else(((σ name).length:Int),0))=(((σ name).length:Int),0)):=Lib.hid (by simp);rw[HR.out];clear hcall hone hb hv hkk hok;go_enter Tryz.func246,Tryz.ntmps246;go_wp2_with fail;refine HC.out.mono ?_;rintro e w2⟨a,c,rfl,hb2,hi⟩;have hm0:=(hb2.cell (p:=⟨w.heap.size,0,none⟩) (by simp)).trans n0;have HB2:=Lib.hid (zab hb2 hB);clear hi hb2;go_wp2;go_ret2;exact⟨rfl,HB2.out⟩
theorem zmS{s:ByteArray}(h:visD vs s=some b):∃j,j<vs.length∧(at' vs j).name=s∧decide ((at' vs j).kind=3)=b:=by unfold visD at h;cases hf:findD vs s with|none=>rw[hf]at h;cases h|some d=>rw[hf]at h;simp only[Option.map_some,Option.some.injEq]at h;(suffices hh:∃j,j<vs.length∧(at' vs j).name=s∧at' vs j=d by obtain⟨j,h1,h2,h3⟩:=hh;exact⟨j,h1,h2,by rw[h3];exact h⟩);clear h;induction vs with|nil=>cases hf|cons e l ih=>rw[findD]at hf;cases hg:findD l s with|some x=>rw[hg]at hf;cases hf;obtain⟨j,h1,h2,h3⟩:=ih hg;exact⟨j+1,by simpa using h1,h2,h3⟩|none=>rw[hg]at hf;simp only at hf;split at hf;(·rename_i hn;cases hf;exact⟨0,by simp,hn,rfl⟩);·cases hf
theorem Frm.vis{σ:Sto}(h:Frm τ w rf vs cs σ){s:ByteArray}(hv:visD vs s=some b):∃j,j<vs.length∧(at' vs j).name=s∧(at' vs j).kind=(if b then 3 else 1)∧ixD vs s=j∧CellAt τ w (at' cs j) (at' vs j).kind (σ s):=by
 obtain⟨j,hj,hn,hk⟩:=zmS hv;refine⟨j,hj,hn,?_,by rw[←hn];exact zlG h.nd hj,by have:=h.cell j hj;rwa[hn]at this⟩;rcases h.kd j hj with e|e;·rw[e]at hk⊢;subst hk;rfl
 ·rw[e]at hk⊢;subst hk;rfl
theorem lookup_I{σ:Sto}(h:SSt C τ w kv F0 rf vs cs σ){s:ByteArray}(hv:visD vs s=some b):Calls Tryz.prog 233 #[.pointer (some ⟨C.T,0,none⟩),.string s] w fun e w'=>w'=w∧∃a c,e=.returned (.tuple #[.slice a (σ s).length c,.bool true])∧Own w 0 3 (.slice a (σ s).length c) (σ s):=by
 obtain⟨j,hj,hn,hk,hix,hc⟩:=h.fr.vis hv;obtain⟨iv,hcb,hown,_⟩:=hc.ex;obtain⟨ia,ic,rfl⟩:=hown.form;obtain⟨kb,off,ha,_⟩:=h.base.place;obtain⟨p0,p1,p2,_⟩:=h.base.cells ha;obtain⟨g,cap,ccs,he,hcap,hg,_,hcell,hptr⟩:=h.fr.cr.elem (by decide) (j:=j) (by rw[h.fr.len];exact hj);have q0:=hcell 0 (by decide);rw[show ccs 0=_ from hptr,show j*PtrE.size+0=j by show j*1+0=j;omega]at q0;rw[he,h.fr.len]at p1;have c0:=zae hcb 0 rfl;obtain⟨va,vc,hve⟩:=h.fr.vr.form;have HROW:RowsAt DclE (fun _=>True) w rf.v vs:=h.fr.vr.shut (fun k a=>a.elim) (fun _ _=>trivial) h.fr.vr.lenle;rw[hve]at HROW p0;have HCU:=Lib.hid (current_I h.base ha);have HFI:=Lib.hid (find_I kb off vs s va vc _ w HROW p0);have HO:=Lib.hid hown;have hlen:vs.length≤maxLen:=h.fr.vr.lenle;unfold maxLen at hlen;have i0:(0:Int)≤(j:Int):=by omega
 have i1:(j:Int)<(vs.length:Int):=by omega
 have d0:decide ((j:Int)<0)=false:=by simp
 rw[hix]at HFI;clear hown hcb HROW h hix hn;go_enter Tryz.func233,Tryz.ntmps233;go_wp2_with(first|(go_at_call 216;refine HCU.out.mono ?_;rintro e w'⟨rfl,rfl⟩)|(go_at_call 217;refine HFI.out.mono ?_;rintro e w'⟨rfl,rfl⟩));go_ret2;exact⟨rfl,_,_,rfl,HO.out⟩
end Go.Proofs.YtnjfnellghhkaaaGreatDoor
