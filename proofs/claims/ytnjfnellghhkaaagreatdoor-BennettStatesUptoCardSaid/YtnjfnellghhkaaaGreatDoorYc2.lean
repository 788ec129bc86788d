/- Contracts and plain lemmas (PGood, PSize, PDig, PInv, InvA, InvB0, InvB, InvC): no statement of the seat is proved here. -/
import Derived.Test.YtnjfnellghhkaaaGreatDoorYa3
import Derived.Test.YtnjfnellghhkaaaGreatDoorYa2
import Derived.Test.YtnjfnellghhkaaaGreatDoorYb3
import Derived.Test.YtnjfnellghhkaaaGreatDoorYc1
import Derived.Deep.DeepCutAuto
import Derived.RegionTactic
import Derived.BigRegion
set_option linter.unusedSimpArgs false
set_option linter.unusedVariables false
set_option linter.unusedSectionVars false
set_option maxRecDepth 100000
set_option maxHeartbeats 25600000
namespace Go.Proofs.YtnjfnellghhkaaaGreatDoor
def GName(s:ByteArray):Prop:=nameB s=true∨∃i,i≤10000∧s=tname i
mutual
def GoodB (lib:List Fn):Bd→Prop
 | .mk tn _ op num name args thn els=>GName tn∧(∀ a ∈ args,GName a)∧(op=80∧0≤num∨op=81∧args.length=1∨op=82∧(8≤num∧num≤23)∧args.length=2∨op=83∧args.length=1∨
    op=85∧args.length≤8∧0≤findF lib name∨op=86∨op=87∧args.length=2∨(op=88∨op=89∨op=90)∧args.length=1)∧GoodBs lib thn∧GoodBs lib els
def GoodBs (lib:List Fn):List Bd→Prop
 | []=>True
 | b :: r=>GoodB lib b∧GoodBs lib r
end
variable {Z:Array Value}{cur:Array Value}{g5:Nat}{gk:Nat}{i:Nat}{j:Nat}{k:Int}{ka:Option Addr}{kc:Nat}{lib:List Fn}{n:Nd}{num:Int}{o:Nat}{rk:List Nd}{s:ByteArray}{types:List Bool}{vis:Vis}{w:World}{wr:World}
theorem GoodBs.append:∀{l m:List Bd},GoodBs lib l→GoodBs lib m→GoodBs lib (l++m)|[],_,_,h=>h|b::l,m,h,h'=>by rw[GoodBs]at h;rw[List.cons_append,GoodBs];exact⟨h.1,h.2.append h'⟩
theorem GoodBs.one{b:Bd}(h:GoodB lib b):GoodBs lib [b]:=by rw[GoodBs];exact⟨h,by rw[GoodBs];trivial⟩
theorem GoodBs.nil(lib:List Fn):GoodBs lib []:=by rw[GoodBs];trivial
def Agree(vis:Vis)(env:Env):Prop:=∀s,match env s with|some p=>GName p.name∧vis s=some p.list|none=>vis s=none
def TNamed(ts:List Par):Prop:=∀j,j<ts.length→(at' ts j).name=tname j
theorem TNamed.snoc{ts:List Par}(h:TNamed ts)(b:Bool):TNamed (ts++[⟨tname ts.length,b⟩]):=by
 intro j hj;by_cases e:j<ts.length;·rw[at',List.getD_eq_getElem?_getD,List.getElem?_append_left e,←List.getD_eq_getElem?_getD];exact h j e
 ·(obtain rfl:j=ts.length:=by simp at hj;omega);simp[at']
theorem TNamed.set{ts:List Par}(h:TNamed ts)(i:Nat)(b:Bool):TNamed (setTy ts i b):=by
 intro j hj;rw[zaR]at hj;unfold setTy;by_cases e:i=j;·subst e;simp[at',hj];have:=h i hj;simpa[at',List.getElem?_eq_getElem hj]using this
 ·have:=h j hj;simp[at',List.getElem?_set_ne e]at this⊢;exact this
theorem zlh{ts:List Par}(hi:i<ts.length)(b:Bool):at' (setTy ts i b) i=⟨(at' ts i).name,b⟩:=by simp[setTy,at',hi]
theorem Agree.put{env:Env}(h:Agree vis env)(s:ByteArray)(p:Par)(hp:GName p.name):Agree (vis.put s p.list) (env.put s p):=by
 intro y;by_cases e:y=s;·simp only[Env.put,Vis.put,if_pos e];exact⟨hp,trivial⟩
 ·simp only[Env.put,Vis.put,if_neg e];exact h y
theorem zmc{env:Env}{p:Par}(h:env s=none):(env.put s p).cut s=env:=by
 funext y;by_cases e:y=s;·subst e;simp[Env.cut,h]
 ·simp[Env.cut,Env.put,e]
theorem Agree.none{env:Env}(h:Agree vis env)(hs:vis s=none):env s=none:=by have:=h s;cases he:env s with|none=>rfl|some p=>rw[he]at this;rw[this.2]at hs;cases hs
structure GoodX (lib:List Fn) (env:Env) (ty:Bool) (x:XR):Prop where
 env:x.env=env
 name:GName x.par.name
 list:x.par.list=ty
 ts:TNamed x.ts
 bs:GoodBs lib x.bs
structure GoodY (lib:List Fn) (env:Env) (n:Nat) (y:YR):Prop where
 env:y.env=env
 args:∀ a ∈ y.args,GName a
 len:y.args.length=n
 ts:TNamed y.ts
 bs:GoodBs lib y.bs
theorem zcg(h:i≤10000):GName (tname i):=.inr ⟨i,h,rfl⟩
theorem zeN{tn x:ByteArray}(b:Bool)(h1:GName tn)(h2:GName x):GoodB lib (varB tn b x):=by rw[varB,GoodB];exact⟨h1,fun a ha=>by simp at ha;subst ha;exact h2,.inr (.inl ⟨rfl,rfl⟩),GoodBs.nil _,GoodBs.nil _⟩
theorem ziz{name:ByteArray}{kids:List Nd}(h:(checkN lib (.mk 81 num name kids) vis).2=0)(hk:kids.length=0):∃b,vis name=some b∧(checkN lib (.mk 81 num name kids) vis).1=b:=by obtain rfl:kids=[]:=List.eq_nil_of_length_eq_zero hk;rw[checkN]at h⊢;simp only[reachE,if_true]at h⊢;cases hv:vis name with|none=>rw[hv]at h;simp at h|some b=>refine⟨b,rfl,?_⟩;simp[checkL]
theorem zge{name:ByteArray}{kids:List Nd}(h81:k≠81)(h:(checkN lib (.mk k num name kids) vis).2=0):reachE lib vis k name kids.length=0∧(checkL lib (decide (k=84)) name kids 0 [] vis).2=0∧(resultT lib k name (checkL lib (decide (k=84)) name kids 0 [] vis).1).2=0∧(checkN lib (.mk k num name kids) vis).1=(resultT lib k name (checkL lib (decide (k=84)) name kids 0 [] vis).1).1:=by
 rw[checkN]at h⊢;by_cases hr:reachE lib vis k name kids.length=0;·rw[if_neg (by simpa using hr)]at h⊢;simp only[]at h⊢;by_cases hc:(checkL lib (decide (k=84)) name kids 0 [] vis).2=0;(·rw[if_neg (by simpa using hc),if_neg h81]at h⊢;exact⟨hr,hc,h,rfl⟩);·rw[if_pos hc]at h;exact absurd h hc
 ·rw[if_pos hr]at h;exact absurd h hr
theorem zdZ{name:ByteArray}(h:(resultT lib k name types).2=0):types=(wantT lib k name types).1∧(resultT lib k name types).1=(wantT lib k name types).2:=by
 unfold resultT at h⊢;by_cases e:types=(wantT lib k name types).1;·rw[if_pos e];exact⟨e,rfl⟩
 ·rw[if_neg e]at h;simp at h
theorem zaW{b:Bool}{name:ByteArray}{r:List Nd}(h:(checkL lib b name (n::r) j types vis).2=0):(checkN lib n (if b∧j=1 then vis.put name (types.getD 0 false)else vis)).2=0∧(checkL lib b name r (j+1) (types++[(checkN lib n (if b∧j=1 then vis.put name (types.getD 0 false)else vis)).1]) vis).2=0∧checkL lib b name (n::r) j types vis=checkL lib b name r (j+1) (types++[(checkN lib n (if b∧j=1 then vis.put name (types.getD 0 false)else vis)).1]) vis:=by
 rw[checkL]at h⊢;generalize checkN lib n (if b∧j=1 then vis.put name (types.getD 0 false)else vis)=C at*;by_cases hc:C.2=0;·simp only[hc,ne_eq,not_true_eq_false,if_false]at h⊢;exact⟨trivial,h,trivial⟩
 ·simp only[hc,ne_eq,not_false_eq_true,if_true]at h
theorem ziN(lib:List Fn)(num:Int)(name:ByteArray)(kids:List Nd)(env:Env)(ts:List Par):exprN lib (.mk 81 num name kids) env ts=⟨ts,[],(env name).getD default,env⟩:=by unfold exprN;rw[if_pos rfl]
theorem ziM(lib:List Fn)(num:Int)(name:ByteArray)(a b:Nd)(env:Env)(ts:List Par):exprN lib (.mk 84 num name [a,b]) env ts=(let x:=exprN lib a env ts;let y:=exprN lib b (x.env.put name x.par) x.ts;⟨y.ts,x.bs++y.bs,y.par,y.env.cut name⟩):=by
 conv=>lhs;unfold exprN
 rw[if_neg (by omega),if_pos rfl]
theorem zkw(lib:List Fn)(num:Int)(name:ByteArray)(c a b:Nd)(env:Env)(ts:List Par):exprN lib (.mk 83 num name [c,a,b]) env ts=(let x:=exprN lib c env ts;let i:=x.ts.length;let y:=exprN lib a x.env (x.ts++[⟨tname i,false⟩]);let ts1:=setTy y.ts i y.par.list;let z:=exprN lib b y.env ts1;let ts2:=setTy z.ts i z.par.list;let t1:=at' ts1 i;let t2:=at' ts2 i;⟨ts2,x.bs++[.mk t2.name t2.list 83 0 ByteArray.empty [x.par.name] (y.bs++[varB t1.name t1.list y.par.name]) (z.bs++[varB t2.name t2.list z.par.name])],t2,z.env⟩):=by
 conv=>lhs;unfold exprN
 rw[if_neg (by omega),if_neg (by omega),if_pos rfl]
theorem zkx(lib:List Fn)(num:Int)(name:ByteArray)(kids:List Nd)(env:Env)(ts:List Par)(h81:k≠81)(h84:k≠84)(h83:k≠83):exprN lib (.mk k num name kids) env ts=(let r:=argsN lib (decide (k=85)) kids env ts;let list:=if k=85 then(fnAt lib (findF lib name)).list else opList k;let t:Par:=⟨tname r.ts.length,list⟩;⟨r.ts++[t],r.bs++[.mk t.name t.list k (if k=85 then 0 else num) (if k=85 then name else ByteArray.empty) r.args [] []],t,r.env⟩):=by
 conv=>lhs;unfold exprN
 rw[if_neg h81,if_neg h84,if_neg h83]
mutual
theorem zbr (lib:List Fn) (hl:∀ i,i < lib.length→(at' lib i).params.length≤8):∀ (n:Nd) (vis:Vis) (env:Env) (ts:List Par),formedN n=true→(checkN lib n vis).2=0→Agree vis env→TNamed ts→ts.length+2 * sizeN n≤10000→
 GoodX lib env (checkN lib n vis).1 (exprN lib n env ts)
 | .mk k num name kids,vis,env,ts,hf,hc,hag,hts,hsz=>by
   rw [formedN,Bool.and_eq_true] at hf
   obtain ⟨hf1,hf2⟩:=hf
   by_cases h81:k=81
   · subst h81
     have hkl:kids.length=0:=by
      simp [formB] at hf1;simp [hf1.2]
     obtain ⟨b,hv,hty⟩:=ziz hc hkl
     have ha:=hag name
     rw [ziN]
     cases he:env name with
     | none=>rw [he] at ha;rw [hv] at ha;cases ha
     | some p=>
       rw [he] at ha
       rw [hv] at ha
       simp only [Option.some.injEq] at ha
       exact ⟨rfl,ha.1,by rw [hty,ha.2];rfl,hts,GoodBs.nil _⟩
   · obtain ⟨hr,hcl,hres,hty⟩:=zge h81 hc
     rw [hty]
     by_cases h84:k=84
     · subst h84
       have hk2:kids.length=2:=by simp [formB] at hf1;exact hf1.2.2
       match kids,hk2 with
       | [a,b],_=>
         simp only [decide_true] at hcl hres ⊢
         obtain ⟨c1,c2,c3⟩:=zaW hcl
         rw [c3] at hres ⊢
         obtain ⟨d1,d2,d3⟩:=zaW c2
         rw [d3] at hres ⊢
         simp only [true_and,Nat.zero_ne_one,if_false,List.nil_append,Nat.zero_add,if_true,List.getD_cons_zero] at c1 d1 hres ⊢
         rw [formedL,formedL,Bool.and_eq_true,Bool.and_eq_true] at hf2
         rw [sizeN,sizeL,sizeL,sizeL] at hsz
         have hvn:vis name=none:=by
          simp [reachE] at hr
          cases h:vis name with
          | none=>rfl
          | some b=>simp [h] at hr
         have ga:=zbr lib hl a vis env ts hf2.1 c1 hag hts (by omega)
         have lena:=zaw lib a env ts
         have hag2:Agree (vis.put name (checkN lib a vis).1) (env.put name (exprN lib a env ts).par):=by
          rw [← ga.list];exact hag.put name _ ga.name
         have gb:=zbr lib hl b (vis.put name (checkN lib a vis).1) (env.put name (exprN lib a env ts).par) (exprN lib a env ts).ts hf2.2.1 d1 hag2 ga.ts (by omega)
         rw [ziM]
         simp only [ga.env]
         refine ⟨by simp only [gb.env];exact zmc (hag.none hvn),gb.name,?_,gb.ts,ga.bs.append gb.bs⟩
         rw [gb.list]
         obtain ⟨e1,e2⟩:=zdZ hres
         rw [e2]
         simp [wantT,checkL]
     · by_cases h83:k=83
       · subst h83
         have hk3:kids.length=3:=by
          rw [formB] at hf1;simp at hf1;exact hf1.2
         match kids,hk3 with
         | [c,a,b],_=>
           simp only [show decide ((83:Int)=84)=false from rfl] at hcl hres ⊢
           obtain ⟨c1,c2,c3⟩:=zaW hcl
           rw [c3] at hres ⊢
           obtain ⟨d1,d2,d3⟩:=zaW c2
           rw [d3] at hres ⊢
           obtain ⟨e1,e2,e3⟩:=zaW d2
           rw [e3] at hres ⊢
           simp only [Bool.false_eq_true,false_and,if_false,List.nil_append,Nat.zero_add,List.cons_append] at c1 d1 e1 hres ⊢
           rw [formedL,formedL,formedL,Bool.and_eq_true,Bool.and_eq_true,Bool.and_eq_true] at hf2
           rw [sizeN,sizeL,sizeL,sizeL,sizeL] at hsz
           obtain ⟨r1,r2⟩:=zdZ hres
           have gc:=zbr lib hl c vis env ts hf2.1 c1 hag hts (by omega)
           have lenc:=zaw lib c env ts
           have ga:=zbr lib hl a vis env ((exprN lib c env ts).ts ++ [⟨tname (exprN lib c env ts).ts.length,false⟩]) hf2.2.1 d1 hag (gc.ts.snoc false) (by simp only [List.length_append,List.length_singleton];omega)
           have lena:=zaw lib a env ((exprN lib c env ts).ts ++ [⟨tname (exprN lib c env ts).ts.length,false⟩])
           simp only [List.length_append,List.length_singleton] at lena
           have gb:=zbr lib hl b vis env (setTy (exprN lib a env ((exprN lib c env ts).ts ++ [⟨tname (exprN lib c env ts).ts.length,false⟩])).ts (exprN lib c env ts).ts.length (exprN lib a env ((exprN lib c env ts).ts ++ [⟨tname (exprN lib c env ts).ts.length,false⟩])).par.list) hf2.2.2.1 e1 hag (ga.ts.set _ _) (by rw [zaR];omega)
           have lenb:=zaw lib b env (setTy (exprN lib a env ((exprN lib c env ts).ts ++ [⟨tname (exprN lib c env ts).ts.length,false⟩])).ts (exprN lib c env ts).ts.length (exprN lib a env ((exprN lib c env ts).ts ++ [⟨tname (exprN lib c env ts).ts.length,false⟩])).par.list)
           rw [zaR] at lenb
           rw [zkw]
           simp only [gc.env,ga.env]
           generalize hX:exprN lib c env ts=X at *
           generalize hY:exprN lib a env (X.ts ++ [⟨tname X.ts.length,false⟩])=Y at *
           generalize hT:setTy Y.ts X.ts.length Y.par.list=T1 at *
           generalize hZ:exprN lib b env T1=Z at *
           have n1:(at' T1 X.ts.length).name=tname X.ts.length:=by
            have h:=ga.ts.set X.ts.length Y.par.list
            rw [hT] at h
            exact h _ (by rw [← hT,zaR];omega)
           have hb2:=gb.ts.set X.ts.length Z.par.list
           have n2:(at' (setTy Z.ts X.ts.length Z.par.list) X.ts.length).name=tname X.ts.length:=hb2 _ (by rw [zaR];omega)
           have hlt:X.ts.length≤10000:=by omega
           refine ⟨gb.env,by simp only [n2];exact zcg hlt,?_,hb2,gc.bs.append (GoodBs.one ?_)⟩
           · simp only [zlh (show X.ts.length < Z.ts.length by omega)]
             rw [gb.list,r2]
             simp only [checkL,wantT] at r1 ⊢
             simp at r1 ⊢
             exact r1.2
           · rw [GoodB,n1,n2]
             refine ⟨zcg hlt,fun s hs=>?_,.inr (.inr (.inr (.inl ⟨rfl,rfl⟩))),ga.bs.append (GoodBs.one (zeN _ (zcg hlt) ga.name)),gb.bs.append (GoodBs.one (zeN _ (zcg hlt) gb.name))⟩
             simp at hs;subst hs;exact gc.name
       · have hd:decide (k=84)=false:=by simp [h84]
         rw [hd] at hcl hres ⊢
         have gy:=zdE lib hl (decide (k=85)) name kids 0 [] vis env ts hf2 hcl hag hts (by rw [sizeN] at hsz;omega)
         have leny:=zbP lib (decide (k=85)) kids env ts
         obtain ⟨r1,r2⟩:=zdZ hres
         rw [sizeN] at hsz
         rw [zkx lib num name kids env ts h81 h84 h83]
         generalize hY:argsN lib (decide (k=85)) kids env ts=Y at *
         have hlt:Y.ts.length≤10000:=by omega
         refine ⟨gy.env,zcg hlt,?_,gy.ts.snoc _,gy.bs.append (GoodBs.one ?_)⟩
         · simp only []
           rw [r2]
           by_cases h85:k=85
           · simp [wantT,h85]
           · simp only [wantT,opList,if_neg h85,if_neg h84,if_neg h83]
             by_cases h82:k=82
             · subst h82;rfl
             · by_cases h86:k=86
               · subst h86;rfl
               · by_cases h87:k=87
                 · subst h87;rfl
                 · by_cases h88:k=88∨k=90
                   · rcases h88 with rfl|rfl <;> rfl
                   · by_cases h89:k=89
                     · subst h89;rfl
                     · simp [h82,h86,h87,h88,h89]
         · rw [GoodB]
           refine ⟨zcg hlt,gy.args,?_,GoodBs.nil _,GoodBs.nil _⟩
           rw [gy.len]
           by_cases h85:k=85
           · right;right;right;right;left
             subst h85
             rw [if_pos rfl]
             simp only [reachE] at hr
             simp only [show ((85:Int)=81)=False by simp,show ((85:Int)=84)=False by simp,if_false,if_true] at hr
             by_cases hlt0:findF lib name < 0
             · rw [if_pos hlt0] at hr;omega
             · rw [if_neg hlt0] at hr
               by_cases hn:kids.length=(fnAt lib (findF lib name)).params.length
               · refine ⟨rfl,?_,by omega⟩
                 rw [hn,fnAt]
                 by_cases hin:(findF lib name).toNat < lib.length
                 · exact hl _ hin
                 · rw [at',List.getD_eq_getElem?_getD,List.getElem?_eq_none (by omega)];exact Nat.zero_le _
               · rw [if_pos hn] at hr;omega
           · rw [if_neg h85]
             rw [formB] at hf1
             simp only [if_neg h81,if_neg h84,if_neg h85,if_neg h83] at hf1
             by_cases h80:k=80
             · left;rw [if_pos h80] at hf1;simp at hf1;exact ⟨h80,hf1.1⟩
             · rw [if_neg h80] at hf1
               by_cases h82:k=82
               · right;right;left;rw [if_pos h82] at hf1;simp at hf1;exact ⟨h82,⟨hf1.1,hf1.2.1⟩,hf1.2.2.2⟩
               · rw [if_neg h82] at hf1
                 by_cases hnn:num≠0∨name.size≠0
                 · rw [if_pos hnn] at hf1;simp at hf1
                 · rw [if_neg hnn] at hf1
                   by_cases h86:k=86
                   · right;right;right;right;right;left;exact h86
                   · rw [if_neg h86] at hf1
                     by_cases h1:k=88∨k=89∨k=90
                     · right;right;right;right;right;right;right;rw [if_pos h1] at hf1;exact ⟨h1,by simpa using hf1⟩
                     · rw [if_neg h1] at hf1
                       by_cases h87:k=87
                       · right;right;right;right;right;right;left;rw [if_pos h87] at hf1;exact ⟨h87,by simpa using hf1⟩
                       · rw [if_neg h87] at hf1;simp at hf1
theorem zdE (lib:List Fn) (hl:∀ i,i < lib.length→(at' lib i).params.length≤8) (call:Bool) (name:ByteArray):∀ (l:List Nd) (j:Nat) (types:List Bool) (vis:Vis) (env:Env) (ts:List Par),formedL l=true→(checkL lib false name l j types vis).2=0→Agree vis env→TNamed ts→ts.length+2 * sizeL l≤10000→
 GoodY lib env l.length (argsN lib call l env ts)
 | [],j,types,vis,env,ts,hf,hc,hag,hts,hsz=>by
   rw [argsN];exact ⟨rfl,fun a ha=>by simp at ha,rfl,hts,GoodBs.nil _⟩
 | n :: r,j,types,vis,env,ts,hf,hc,hag,hts,hsz=>by
   rw [formedL,Bool.and_eq_true] at hf
   obtain ⟨c1,c2,_⟩:=zaW hc
   simp only [Bool.false_eq_true,false_and,if_false] at c1 c2
   rw [sizeL] at hsz
   have gn:=zbr lib hl n vis env ts hf.1 c1 hag hts (by omega)
   have lenn:=zaw lib n env ts
   rw [argsN]
   simp only [gn.env]
   generalize hX:exprN lib n env ts=X at *
   have hlt:X.ts.length≤10000:=by omega
   split
   · have gr:=zdE lib hl call name r (j+1) _ vis env (X.ts ++ [⟨tname X.ts.length,X.par.list⟩]) hf.2 c2 hag (gn.ts.snoc _) (by simp only [List.length_append,List.length_singleton];omega)
     refine ⟨gr.env,fun a ha=>?_,by simp only [List.length_cons,gr.len],gr.ts,gn.bs.append ?_⟩
     · rcases List.mem_cons.1 ha with rfl|ha
       · exact zcg hlt
       · exact gr.args a ha
     · rw [GoodBs];exact ⟨zeN _ (zcg hlt) gn.name,gr.bs⟩
   · have gr:=zdE lib hl call name r (j+1) _ vis env X.ts hf.2 c2 hag gn.ts (by omega)
     refine ⟨gr.env,fun a ha=>?_,by simp only [List.length_cons,gr.len],gr.ts,gn.bs.append gr.bs⟩
     rcases List.mem_cons.1 ha with rfl|ha
     · exact gn.name
     · exact gr.args a ha
end
theorem zhr(l:List Par)(h:∀p∈l,nameB p.name=true):Agree (parsV l) (parsEnv l):=by
 have key:∀(l:List Par)(v:Vis)(e:Env),(∀p∈l,nameB p.name=true)→Agree v e→Agree (l.foldl (fun v p=>v.put p.name p.list) v) (l.foldl (fun v p=>v.put p.name p) e):=by intro l;induction l with|nil=>intro v e _ ha;exact ha|cons p r ih=>intro v e hp ha;exact ih _ _ (fun q hq=>hp q (List.mem_cons_of_mem _ hq)) (ha.put _ _ (.inl (hp p (List.mem_cons_self ..))))
 exact key l _ _ h (fun s=>rfl)
theorem zhZ{l:List Par}(h:parsE l=0):∀p∈l,nameB p.name=true:=by
 unfold parsE at h;by_cases h8:8<l.length;·rw[if_pos h8]at h;omega
 ·rw[if_neg h8]at h;by_cases ha:(l.all fun p=>nameB p.name)=true;(·intro p hp;exact List.all_eq_true.1 ha p hp);·rw[if_neg ha]at h;omega
theorem ziG(u:Nat):∀c∈Lib.decDigits u,48≤c.toNat∧c.toNat≤57:=by induction u using Nat.strongRecOn with|ind u ih=>intro c hc;(have one:∀d:Nat,d<10→c=UInt8.ofNat (48+d)→48≤c.toNat∧c.toNat≤57:=by intro d hd e;subst e;(have:(UInt8.ofNat (48+d)).toNat=48+d:=by simp;omega);omega);rw[Lib.decDigits]at hc;by_cases h:u<10;(·rw[dif_pos h]at hc;exact one u h (by simpa using hc));·rw[dif_neg h]at hc;rcases List.mem_append.1 hc with hc|hc;(·exact ih (u/10) (by omega) c hc);·exact one (u%10) (by omega) (by simpa using hc)
theorem zna(u:Nat):Lib.decDigits u≠[]:=by rw[Lib.decDigits];split<;>simp
theorem ziF:∀(k u:Nat),u<10^(k+1)→(Lib.decDigits u).length≤k+1|0,u,h=>by rw[Lib.decDigits,dif_pos (by omega)];simp|k+1,u,h=>by rw[Lib.decDigits];split;(·simp);·have:=ziF k (u/10) (by rw[Nat.pow_succ]at h;omega);simp;omega
def invK(k num:Int)(name:ByteArray)(kids ik:List Nd):Nd:=if k=57 then .mk 57 num name ik.reverse else if k=40 then .mk 41 num name kids else if k=44 then .mk 45 num name kids else if k=45 then .mk 44 num name kids else if k=50 then .mk 51 num name kids else if k=52 then .mk 52 num name [at' kids 3,at' ik 1,at' ik 2,at' kids 0]else if k=54 then .mk 54 num name [at' kids 2,at' ik 1,at' kids 0]else .mk k num name kids
mutual
def invN:Nd→Nd
 | .mk k num name kids=>invK k num name kids (invL kids)
def invL:List Nd→List Nd
 | []=>[]
 | n :: r=>invN n :: invL r
end
theorem zeO:∀l:List Nd,invL l=l.map invN|[]=>by rw[invL];rfl|n::r=>by rw[invL,zeO r];rfl
theorem zgX(l:List Nd):(invL l).length=l.length:=by rw[zeO,List.length_map]
theorem zmu(l:List Nd)(h:j<l.length):at' (invL l) j=invN (at' l j):=by rw[zeO,zam (by simpa using h),zam h];simp
theorem zaP:∀l m:List Bd,sizeBs (l++m)=sizeBs l+sizeBs m|[],m=>by rw[List.nil_append,sizeBs];omega|b::l,m=>by rw[List.cons_append,sizeBs,sizeBs,zaP l m];omega
theorem zfS(tn x:ByteArray)(b:Bool):sizeB (varB tn b x)=2:=by rw[varB,sizeB,sizeBs];rfl
mutual
theorem zaX (lib:List Fn):∀ (n:Nd) (env:Env) (ts:List Par),sizeBs (exprN lib n env ts).bs+3≤6 * sizeN n
 | .mk k num name kids,env,ts=>by
   unfold exprN
   rw [sizeN]
   split
   · simp only [sizeBs];omega
   · split
     · split
       · rename_i a b
         have ha:=zaX lib a env ts
         have hb:=zaX lib b ((exprN lib a env ts).env.put name (exprN lib a env ts).par) (exprN lib a env ts).ts
         simp only [sizeL,zaP]
         omega
       · simp only [sizeBs];omega
     · split
       · split
         · rename_i c a b
           have hc:=zaX lib c env ts
           have ha:=zaX lib a (exprN lib c env ts).env ((exprN lib c env ts).ts ++ [⟨tname (exprN lib c env ts).ts.length,false⟩])
           have hb:=zaX lib b (exprN lib a (exprN lib c env ts).env ((exprN lib c env ts).ts ++ [⟨tname (exprN lib c env ts).ts.length,false⟩])).env (setTy (exprN lib a (exprN lib c env ts).env ((exprN lib c env ts).ts ++ [⟨tname (exprN lib c env ts).ts.length,false⟩])).ts (exprN lib c env ts).ts.length (exprN lib a (exprN lib c env ts).env ((exprN lib c env ts).ts ++ [⟨tname (exprN lib c env ts).ts.length,false⟩])).par.list)
           simp only [sizeL,zaP,sizeBs,sizeB,zfS,List.length_singleton]
           omega
         · simp only [sizeBs];omega
       · have h:=zdf lib (decide (k=85)) kids env ts
         simp only [zaP,sizeBs,sizeB]
         omega
theorem zdf (lib:List Fn) (call:Bool):∀ (l:List Nd) (env:Env) (ts:List Par),sizeBs (argsN lib call l env ts).bs+(argsN lib call l env ts).args.length≤6 * sizeL l
 | [],env,ts=>by rw [argsN];simp [sizeBs]
 | n :: r,env,ts=>by
   rw [argsN,sizeL]
   have hn:=zaX lib n env ts
   split
   · have hr:=zdf lib call r (exprN lib n env ts).env ((exprN lib n env ts).ts ++ [⟨tname (exprN lib n env ts).ts.length,(exprN lib n env ts).par.list⟩])
     simp only [zaP,sizeBs,zfS,List.length_cons]
     omega
   · have hr:=zdf lib call r (exprN lib n env ts).env (exprN lib n env ts).ts
     simp only [zaP,List.length_cons]
     omega
end
theorem zjM(k:Int)(s:ByteArray)(l:List Nd):sizeN (nodeN k s l)=sizeL l+1:=by rw[nodeN,sizeN]
theorem zlU(s:ByteArray):sizeN (vN s)=1:=by simp[vN,sizeN,sizeL]
theorem zli(x:Int):sizeN (numN x)=1:=by simp[numN,sizeN,sizeL]
structure GoodF (lib:List Fn) (g:AFn):Prop where
 name:nameB g.name=true
 params:∀ p ∈ g.params,nameB p.name=true
 plen:g.params.length≤8
 temps:TNamed g.temps
 tlen:g.temps.length≤4000
 body:GoodBs lib g.body
 result:GName g.result
theorem zjs(h:(validE lib).2=0)(hi:i<lib.length):GoodF lib (normF lib (at' lib i))∧sizeBs (normF lib (at' lib i)).body≤6*sizeN (at' lib i).body∧(normF lib (at' lib i)).temps.length≤2*sizeN (at' lib i).body:=by
 have hv:=zcx h hi;have hp:=zhZ hv.pars;have hx:=zbr lib (fun j hj=>zdX (zcx h hj).pars) (at' lib i).body _ (parsEnv (at' lib i).params) [] hv.form hv.check (zhr _ hp) (fun j hj=>by simp at hj) (by have:=hv.size;simp;omega);have hl:=zaw lib (at' lib i).body (parsEnv (at' lib i).params) [];have hz:=zaX lib (at' lib i).body (parsEnv (at' lib i).params) [];have hsz:=hv.size;simp only[List.length_nil]at hl;refine⟨⟨hv.name,hp,zdX hv.pars,hx.ts,?_,hx.bs,hx.name⟩,?_,?_⟩;·show(exprN lib (at' lib i).body (parsEnv (at' lib i).params) []).ts.length≤4000;omega
 ·show sizeBs (exprN lib (at' lib i).body (parsEnv (at' lib i).params) []).bs≤_;omega
 ·show(exprN lib (at' lib i).body (parsEnv (at' lib i).params) []).ts.length≤_;omega
open Go.RowKit
theorem zgi(k k':Int)(w:World)(h:k=40∧k'=41∨k=44∧k'=45∨k=45∧k'=44):Calls Tryz.prog 150 #[.int .u8 k] w fun e w'=>e=.returned (.int .u8 k')∧w=w':=by rcases h with⟨rfl,rfl⟩|⟨rfl,rfl⟩|⟨rfl,rfl⟩;all_goals go_enter Tryz.func150,Tryz.ntmps150;go_wp2;go_ret;exact⟨rfl,rfl⟩
theorem zgA(a:Option Addr)(c:Nat)(w:World):Calls Tryz.prog 149 #[.slice a 1 c] w fun e w'=>e=.returned (.tuple #[])∧w=w':=by
 go_enter Tryz.func149,Tryz.ntmps149;go_wp2;go_loop[2,3](fun i j=>i=.int .i64 0∧j=.int .i64 0)(fun _ _=>0);case atStart=>exact⟨rfl,rfl⟩
 case round=>obtain⟨rfl,rfl⟩:=hrel;go_wp2;go_end0;exact⟨rfl,rfl⟩
def IV(w:World)(g5 gk b:Nat):Prop:=w.heap.size+2≤b∧b≠g5∧b≠gk
structure InvSt (n:Nd) (ka:Option Addr) (kc:Nat) (w:World) (g5 gk:Nat) (rk:List Nd) (k:Nat) (cur:Array Value) (wr:World):Prop where
 box:wr.heap[w.heap.size]?=some (.cells #[.int .u8 n.kind,.int .i64 n.num,.string n.name,.slice ka n.kids.length kc] 30 (0,0))
 zero:wr.heap[w.heap.size+1]?=some (.cells #[.int .u8 0,.int .i64 0,.string ⟨#[]⟩,.slice none 0 0] 30 (0,0))
 m:wr.heap[g5]?=some (.cells #[.int .u8 n.kind,.int .i64 n.num,.string n.name,.slice (some ⟨gk,0,none⟩) n.kids.length n.kids.length] 30 (0,0))
 row:wr.heap[gk]?=some (.cells cur 30 (0,0))
 size:cur.size=n.kids.length * 4
 el:∀ j,j < k→NdC (IV w g5 gk) wr (fun i=>cur.getD (j * 4+i) undef) (at' rk j)
 ne:g5≠gk
 h5:w.heap.size+2≤g5
 hk:w.heap.size+2≤gk
 below:Below w.heap.size w wr
theorem zeZ{g e:Nat}(h:w.heap[g]?=some (.cells cur e (0,0)))(x0 x1 x2 x3:Value):((((w.setCell ⟨g,o,none⟩ x0).setCell ⟨g,o+1,none⟩ x1).setCell ⟨g,o+2,none⟩ x2).setCell ⟨g,o+3,none⟩ x3).heap[g]?=some (.cells ((((cur.setIfInBounds o x0).setIfInBounds (o+1) x1).setIfInBounds (o+2) x2).setIfInBounds (o+3) x3) e (0,0)):=heap_setCell_same _ g (o+3) _ _ x3 (heap_setCell_same _ g (o+2) _ _ x2 (heap_setCell_same _ g (o+1) _ _ x1 (heap_setCell_same w g o _ _ x0 h)))
theorem zcr(w:World)(g o:Nat)(x0 x1 x2 x3:Value):Keeps w ((((w.setCell ⟨g,o,none⟩ x0).setCell ⟨g,o+1,none⟩ x1).setCell ⟨g,o+2,none⟩ x2).setCell ⟨g,o+3,none⟩ x3) (fun b=>b=g):=(((zaf w g o x0).same (zaf _ g (o+1) x1)).same (zaf _ g (o+2) x2)).same (zaf _ g (o+3) x3)
theorem ziU(x0 x1 x2 x3:Value)(h:o+3<cur.size):(∀i,i<o→((((cur.setIfInBounds o x0).setIfInBounds (o+1) x1).setIfInBounds (o+2) x2).setIfInBounds (o+3) x3).getD i undef=cur.getD i undef)∧((((cur.setIfInBounds o x0).setIfInBounds (o+1) x1).setIfInBounds (o+2) x2).setIfInBounds (o+3) x3).getD (o+0) undef=x0∧((((cur.setIfInBounds o x0).setIfInBounds (o+1) x1).setIfInBounds (o+2) x2).setIfInBounds (o+3) x3).getD (o+1) undef=x1∧((((cur.setIfInBounds o x0).setIfInBounds (o+1) x1).setIfInBounds (o+2) x2).setIfInBounds (o+3) x3).getD (o+2) undef=x2∧((((cur.setIfInBounds o x0).setIfInBounds (o+1) x1).setIfInBounds (o+2) x2).setIfInBounds (o+3) x3).getD (o+3) undef=x3:=by
 refine⟨fun i hi=>?_,?_,?_,?_,?_⟩;·simp only[Array.getD_eq_getD_getElem?];rw[Array.getElem?_setIfInBounds_ne (by omega),Array.getElem?_setIfInBounds_ne (by omega),Array.getElem?_setIfInBounds_ne (by omega),Array.getElem?_setIfInBounds_ne (by omega)]
 ·simp only[Array.getD_eq_getD_getElem?,Nat.add_zero];rw[Array.getElem?_setIfInBounds_ne (by omega),Array.getElem?_setIfInBounds_ne (by omega),Array.getElem?_setIfInBounds_ne (by omega),Array.getElem?_setIfInBounds_self_of_lt (by omega)];rfl
 ·simp only[Array.getD_eq_getD_getElem?];rw[Array.getElem?_setIfInBounds_ne (by omega),Array.getElem?_setIfInBounds_ne (by omega),Array.getElem?_setIfInBounds_self_of_lt (by simp;omega)];rfl
 ·simp only[Array.getD_eq_getD_getElem?];rw[Array.getElem?_setIfInBounds_ne (by omega),Array.getElem?_setIfInBounds_self_of_lt (by simp;omega)];rfl
 ·simp only[Array.getD_eq_getD_getElem?];rw[Array.getElem?_setIfInBounds_self_of_lt (by simp;omega)];rfl
theorem InvSt.step{w1:World}{k:Nat}{a b c d:Value}(h:InvSt n ka kc w g5 gk rk k cur wr)(hk:k<n.kids.length)(hb:Below wr.heap.size wr w1)(hx:NdAt (Up wr.heap.size) w1 (.agg #[a,b,c,d]) (at' rk k)):InvSt n ka kc w g5 gk rk (k+1) ((((cur.setIfInBounds (k*4) a).setIfInBounds (k*4+1) b).setIfInBounds (k*4+2) c).setIfInBounds (k*4+3) d) ((((w1.setCell ⟨gk,k*4,none⟩ a).setCell ⟨gk,k*4+1,none⟩ b).setCell ⟨gk,k*4+2,none⟩ c).setCell ⟨gk,k*4+3,none⟩ d):=by
 have hK:=zcr w1 gk (k*4) a b c d;have hb5:=h.h5;have hbk:=h.hk;have lt:∀{g:Nat}{o:Obj},wr.heap[g]?=some o→g<wr.heap.size:=fun e=>by rw[Array.getElem?_eq_some_iff]at e;exact e.1
 have st:∀{g:Nat}{o:Obj},wr.heap[g]?=some o→g≠gk→((((w1.setCell ⟨gk,k*4,none⟩ a).setCell ⟨gk,k*4+1,none⟩ b).setCell ⟨gk,k*4+2,none⟩ c).setCell ⟨gk,k*4+3,none⟩ d).heap[g]?=some o:=fun e hne=>by rw[hK.block _ (Nat.lt_of_lt_of_le (lt e) hb.size) hne];exact zac hb e
 have l5:=lt h.m;have lk:=lt h.row;have hgd:=ziU a b c d (show k*4+3<cur.size by rw[h.size];omega);refine⟨st h.box (by omega),st h.zero (by omega),st h.m h.ne,zeZ (zac hb h.row) _ _ _ _,by simp only[Array.size_setIfInBounds];exact h.size,fun j hj=>?_,h.ne,h.h5,h.hk,?_⟩;·by_cases hjk:j<k;(·refine((h.el j hjk).stays ⟨Nat.le_trans hb.size hK.size,fun x hx a=>⟨?_,a⟩⟩).congr fun i hi=>hgd.1 _ (by omega);rw[hK.block x (Nat.lt_of_lt_of_le hx hb.size) a.2.2];exact hb.block x hx);·(obtain rfl:j=k:=by omega);obtain⟨rfl,rfl,rfl,hkk,hok⟩:=zaD hx;refine⟨hgd.2.1,hgd.2.2.1,hgd.2.2.2.1,?_,hok⟩;show KidsAt _ _ (Array.getD _ (j*4+3) undef) _;rw[hgd.2.2.2.2];refine hkk.stays ⟨hK.size,fun x hx a=>⟨hK.block x hx (fun e=>?_),?_⟩⟩;(·have:wr.heap.size≤x:=a;omega);·have:wr.heap.size≤x:=a;exact⟨by omega,by omega,by omega⟩
 ·refine((((h.below.trans (hb.mono h.below.size)).setCell (by show w.heap.size≤gk;omega) _).setCell (by show w.heap.size≤gk;omega) _).setCell (by show w.heap.size≤gk;omega) _).setCell (by show w.heap.size≤gk;omega) _
theorem InvSt.kids(h:InvSt n ka kc w g5 gk rk n.kids.length cur wr)(hl:rk.length=n.kids.length)(hm:n.kids.length≤1000):KidsAt (fun b=>w.heap.size+2≤b∧b≠g5) wr (.slice (some ⟨gk,0,none⟩) n.kids.length n.kids.length) rk:=by
 rw[←hl];refine zcV h.row ⟨h.hk,h.ne.symm⟩ (by omega) (fun j hj=>?_);have e:=(h.el j (by omega)).stays (A':=fun b=>w.heap.size+2≤b∧b≠g5) ⟨Nat.le_refl _,fun b _ a=>⟨rfl,a.1,a.2.1⟩⟩;have key:∀i,i<4→cur[j*4+i]?=some (cur.getD (j*4+i) undef):=fun i hi=>by(have:j*4+i<cur.size:=by rw[h.size];omega);rw[Array.getD_eq_getD_getElem?,Array.getElem?_eq_getElem this];rfl
 refine⟨_,(key 0 (by omega)).trans (congrArg some e.c0),(key 1 (by omega)).trans (congrArg some e.c1),(key 2 (by omega)).trans (congrArg some e.c2),key 3 (by omega),e.c3,e.ok⟩
def InvCut(n:Nd)(ka:Option Addr)(kc:Nat)(w:World)(rk:List Nd)(s:Value)(wx:World):Prop:=∃g5 gk cur,s=.pointer (some ⟨g5,0,none⟩)∧InvSt n ka kc w g5 gk rk 0 cur wx
theorem zhO{W:World}(hx:W.heap[w.heap.size]?=some (.cells #[.int .u8 n.kind,.int .i64 n.num,.string n.name,.slice ka n.kids.length kc] 30 (0,0)))(hz:W.heap[w.heap.size+1]?=some (.cells #[.int .u8 0,.int .i64 0,.string ⟨#[]⟩,.slice none 0 0] 30 (0,0)))(hs:W.heap.size=w.heap.size+1+1)(hZ:Z.size=n.kids.length*4)(hb:Below w.heap.size w W):InvCut n ka kc w rk (.pointer (some ⟨W.heap.size+1,0,none⟩)) ((W.alloc (.cells Z 30)).alloc (.cells #[.int .u8 n.kind,.int .i64 n.num,.string n.name,.slice (some ⟨W.heap.size,0,none⟩) n.kids.length n.kids.length] 30)).drew:=⟨_,W.heap.size,Z,rfl,zaj (zah (zah hx)),zaj (zah (zah hz)),zaj (zal (by simp)),zaj (zah (zal rfl)),hZ,fun j hj=>by omega,by omega,by omega,by omega,zad (zaa (zaa hb))⟩
theorem zhP{W:World}(hx:W.heap[w.heap.size]?=some (.cells #[.int .u8 n.kind,.int .i64 n.num,.string n.name,.slice ka n.kids.length kc] 30 (0,0)))(hz:W.heap[w.heap.size+1]?=some (.cells #[.int .u8 0,.int .i64 0,.string ⟨#[]⟩,.slice none 0 0] 30 (0,0)))(hs:W.heap.size=w.heap.size+1+1)(hZ:Z.size=n.kids.length*4)(hb:Below w.heap.size w W):InvCut n ka kc w rk (.pointer (some ⟨W.heap.size,0,none⟩)) ((W.alloc (.cells #[.int .u8 n.kind,.int .i64 n.num,.string n.name,.slice (some ⟨W.heap.size+1,0,none⟩) n.kids.length n.kids.length] 30)).alloc (.cells Z 30)).drew:=⟨_,W.heap.size+1,Z,rfl,zaj (zah (zah hx)),zaj (zah (zah hz)),zaj (zah (zal rfl)),zaj (zal (by simp)),hZ,fun j hj=>by omega,by omega,by omega,by omega,zad (zaa (zaa hb))⟩
theorem zeE{g b:Nat}{y:Obj}{x0 x1 x2 x3:Value}(h:w.heap[b]?=some y)(hne:b≠g):((((w.setCell ⟨g,o,none⟩ x0).setCell ⟨g,o+1,none⟩ x1).setCell ⟨g,o+2,none⟩ x2).setCell ⟨g,o+3,none⟩ x3).heap[b]?=some y:=by
 have hb:b<w.heap.size:=by rw[Array.getElem?_eq_some_iff]at h;exact h.1
 rw[(zcr w g o x0 x1 x2 x3).block b hb hne];exact h
theorem cellsInv{g7 e e':Nat}{a b c d x0 x1 x2 x3:Value}(h5:w.heap[g5]?=some (.cells #[a,b,c,d] e (0,0)))(h7:w.heap[g7]?=some (.cells #[x0,x1,x2,x3] e' (0,0))):w.cell? ⟨g5,3,none⟩=some d∧w.cell? ⟨g7,0,none⟩=some x0∧w.cell? ⟨g7,1,none⟩=some x1∧w.cell? ⟨g7,2,none⟩=some x2∧w.cell? ⟨g7,3,none⟩=some x3:=⟨zae h5 3 rfl,zae h7 0 rfl,zae h7 1 rfl,zae h7 2 rfl,zae h7 3 rfl⟩
theorem zdo{g k n e:Nat}(h:w.heap[g]?=some (.cells cur e (0,0)))(hs:cur.size=n*4)(hk:k<n):∃a b c d,w.cell? ⟨g,k*4,none⟩=some a∧w.cell? ⟨g,k*4+1,none⟩=some b∧w.cell? ⟨g,k*4+2,none⟩=some c∧w.cell? ⟨g,k*4+3,none⟩=some d∧∀j,w.frozen? ⟨g,j,none⟩=false:=⟨_,_,_,_,zae h (k*4) (Array.getElem?_eq_getElem (by omega)),zae h (k*4+1) (Array.getElem?_eq_getElem (by omega)),zae h (k*4+2) (Array.getElem?_eq_getElem (by omega)),zae h (k*4+3) (Array.getElem?_eq_getElem (by omega)),unfrozen h⟩
theorem InvSt.cells{k:Nat}(h:InvSt n ka kc w g5 gk rk k cur wr)(hj:j<k)(hn:j<n.kids.length):∃xa xc,wr.cell? ⟨gk,j*4,none⟩=some (.int .u8 (at' rk j).kind)∧wr.cell? ⟨gk,j*4+1,none⟩=some (.int .i64 (at' rk j).num)∧wr.cell? ⟨gk,j*4+2,none⟩=some (.string (at' rk j).name)∧wr.cell? ⟨gk,j*4+3,none⟩=some (.slice xa (at' rk j).kids.length xc)∧NdAt (IV w g5 gk) wr (.agg #[.int .u8 (at' rk j).kind,.int .i64 (at' rk j).num,.string (at' rk j).name,.slice xa (at' rk j).kids.length xc]) (at' rk j):=by
 have e:=h.el j hj;obtain⟨_,xa,xc,e3⟩:=e.c3.form;have key:∀i,i<4→wr.cell? ⟨gk,j*4+i,none⟩=some (cur.getD (j*4+i) undef):=fun i hi=>by(have:j*4+i<cur.size:=by rw[h.size];omega);exact zae h.row _ (by rw[Array.getD_eq_getD_getElem?,Array.getElem?_eq_getElem this];rfl)
 refine⟨xa,xc,(key 0 (by omega)).trans (congrArg some e.c0),(key 1 (by omega)).trans (congrArg some e.c1),(key 2 (by omega)).trans (congrArg some e.c2),(key 3 (by omega)).trans (congrArg some e3),e.ok,_,rfl,?_⟩;have:=e.c3;rw[e3]at this;exact this
structure SwapSt (n:Nd) (w:World) (g5 gk:Nat) (rk:List Nd) (wx:World):Prop where
 zero:wx.heap[w.heap.size+1]?=some (.cells #[.int .u8 0,.int .i64 0,.string ⟨#[]⟩,.slice none 0 0] 30 (0,0))
 m:wx.heap[g5]?=some (.cells #[.int .u8 n.kind,.int .i64 n.num,.string n.name,.slice (some ⟨gk,0,none⟩) n.kids.length n.kids.length] 30 (0,0))
 kids:KidsAt (fun b=>w.heap.size+2≤b∧b≠g5) wx (.slice (some ⟨gk,0,none⟩) 3 3) [at' rk 2,at' rk 1,at' rk 0]
 below:Below w.heap.size w wx
theorem arr12(h:cur.size=12):∃c0 c1 c2 c3 c4 c5 c6 c7 c8 c9 c10 c11,cur=#[c0,c1,c2,c3,c4,c5,c6,c7,c8,c9,c10,c11]:=by rcases cur with⟨l⟩;simp only[List.size_toArray]at h;match l,h with|[c0,c1,c2,c3,c4,c5,c6,c7,c8,c9,c10,c11],_=>exact⟨c0,c1,c2,c3,c4,c5,c6,c7,c8,c9,c10,c11,rfl⟩
theorem InvSt.swap{wx:World}{cur':Array Value}{x0 x1 x2 x3 y0 y1 y2 y3:Value}(h:InvSt n ka kc w g5 gk rk n.kids.length cur wr)(h3:n.kids.length=3)(hx:NdAt (IV w g5 gk) wr (.agg #[x0,x1,x2,x3]) (at' rk 0))(hy:NdAt (IV w g5 gk) wr (.agg #[y0,y1,y2,y3]) (at' rk 2))(hK:Keeps wr wx (fun b=>b=gk))(hrow:wx.heap[gk]?=some (.cells cur' 30 (0,0)))(hc:∀c0 c1 c2 c3 c4 c5 c6 c7 c8 c9 c10 c11,cur=#[c0,c1,c2,c3,c4,c5,c6,c7,c8,c9,c10,c11]→cur'=#[y0,y1,y2,y3,c4,c5,c6,c7,x0,x1,x2,x3])(hb:Below w.heap.size w wx):SwapSt n w g5 gk rk wx:=by
 obtain⟨c0,c1,c2,c3,c4,c5,c6,c7,c8,c9,c10,c11,rfl⟩:=arr12 (by rw[h.size,h3]);have e:=hc _ _ _ _ _ _ _ _ _ _ _ _ rfl;subst e;have st:∀{g:Nat}{o:Obj},wr.heap[g]?=some o→g≠gk→wx.heap[g]?=some o:=fun e hne=>by rw[hK.block _ (by rw[Array.getElem?_eq_some_iff]at e;exact e.1) hne];exact e
 have hstay:Stays (IV w g5 gk) (fun b=>w.heap.size+2≤b∧b≠g5) wr wx:=⟨hK.size,fun b hb a=>⟨hK.block b hb a.2.2,a.1,a.2.1⟩⟩;have hgk:=h.hk;have e1:=h.el 1 (by omega);have hmid:NdAt (IV w g5 gk) wr (.agg #[c4,c5,c6,c7]) (at' rk 1):=by have a0:c4=_:=e1.c0;have a1:c5=_:=e1.c1;have a2:c6=_:=e1.c2;have a3:KidsAt _ _ c7 _:=e1.c3;subst a0 a1 a2;exact⟨e1.ok,c7,rfl,a3⟩
 refine⟨st h.zero (by omega),st h.m h.ne,zgZ hrow ⟨h.hk,h.ne.symm⟩ (hy.stays hstay) (hmid.stays hstay) (hx.stays hstay),hb⟩
theorem zeP{R:Nd}{K:Int}{name:ByteArray}{wx:World}{a:Option Addr}{len c:Nat}(hR:R=.mk K num name rk)(hl:rk.length=len)(hok:(0≤K∧K≤255)∧In64 num∧name.size≤maxLen)(hk:KidsAt (Up w.heap.size) wx (.slice a len c) rk)(hb:Below w.heap.size w wx):CopyPost R w (.returned (.agg #[.int .u8 K,.int .i64 num,.string name,.slice a len c])) wx:=by subst hR hl;exact⟨a,c,rfl,⟨hok,_,rfl,hk⟩,hb⟩
theorem zgr{w':World}{S:Nat→Prop}(h:Keeps w w' S):Keeps w w'.drew S:=⟨h.os,h.tape,h.output,h.size,h.block⟩
theorem zbd{w':World}{g:Nat}{x:Value}(h:Below w.heap.size w w')(hg:w.heap.size≤g):Below w.heap.size w (w'.setCell ⟨g,o,none⟩ x):=h.setCell hg x
theorem InvSt.swapped{xa ya:Option Addr}{xc yc:Nat}(h:InvSt n ka kc w g5 gk rk n.kids.length cur wr)(h3:n.kids.length=3)(hx:NdAt (IV w g5 gk) wr (.agg #[.int .u8 (at' rk 0).kind,.int .i64 (at' rk 0).num,.string (at' rk 0).name,.slice xa (at' rk 0).kids.length xc]) (at' rk 0))(hy:NdAt (IV w g5 gk) wr (.agg #[.int .u8 (at' rk 2).kind,.int .i64 (at' rk 2).num,.string (at' rk 2).name,.slice ya (at' rk 2).kids.length yc]) (at' rk 2)):SwapSt n w g5 gk rk ((((((((((wr).setCell ⟨gk,0,none⟩ (.int .u8 (at' rk 2).kind)).setCell ⟨gk,1,none⟩ (.int .i64 (at' rk 2).num)).setCell ⟨gk,2,none⟩ (.string (at' rk 2).name)).setCell ⟨gk,3,none⟩ (.slice ya (at' rk 2).kids.length yc))).setCell ⟨gk,8,none⟩ (.int .u8 (at' rk 0).kind)).setCell ⟨gk,9,none⟩ (.int .i64 (at' rk 0).num)).setCell ⟨gk,10,none⟩ (.string (at' rk 0).name)).setCell ⟨gk,11,none⟩ (.slice xa (at' rk 0).kids.length xc)).drew:=by
 have hK:=(zcr wr gk 0 (.int .u8 (at' rk 2).kind) (.int .i64 (at' rk 2).num) (.string (at' rk 2).name) (.slice ya (at' rk 2).kids.length yc)).same (zcr _ gk 8 (.int .u8 (at' rk 0).kind) (.int .i64 (at' rk 0).num) (.string (at' rk 0).name) (.slice xa (at' rk 0).kids.length xc));simp only[Nat.zero_add,Nat.reduceAdd]at hK;have hg:w.heap.size≤gk:=by have:=h.hk;omega
 have hrow:=zeZ (o:=8) (zeZ (o:=0) h.row (.int .u8 (at' rk 2).kind) (.int .i64 (at' rk 2).num) (.string (at' rk 2).name) (.slice ya (at' rk 2).kids.length yc)) (.int .u8 (at' rk 0).kind) (.int .i64 (at' rk 0).num) (.string (at' rk 0).name) (.slice xa (at' rk 0).kids.length xc);simp only[Nat.zero_add,Nat.reduceAdd]at hrow;refine h.swap h3 hx hy (zgr hK) (zaj hrow) (fun c0 c1 c2 c3 c4 c5 c6 c7 c8 c9 c10 c11 e=>?_) ?_;·subst e;simp only[List.setIfInBounds_toArray,List.set_cons_zero,List.set_cons_succ]
 ·exact zad (zbd (zbd (zbd (zbd (zbd (zbd (zbd (zbd h.below hg) hg) hg) hg) hg) hg) hg) hg)
theorem zgn(n R:Nd)(v:Value)(A:Nat→Prop)(w:World)(rk:List Nd)(hv:NdAt A w v n)(hl:rk.length=n.kids.length)(hn:n.kids.length≤3)(HI:Hid (∀j,j<n.kids.length→(n.kind=57∨(at' n.kids j).kind=57)→∀(v:Value)(A:Nat→Prop)(w:World),NdAt A w v (at' n.kids j)→Calls Tryz.prog 119 #[v,.bool false] w (CopyPost (at' rk j) w)))(HC:Hid (∀j,j<n.kids.length→¬(n.kind=57∨(at' n.kids j).kind=57)→at' rk j=at' n.kids j∧sizeN (at' n.kids j)≤100000))(HR:Hid ((n.kind=57∧n.kids.length=1∧R=.mk 57 n.num n.name rk)∨(n.kind=54∧n.kids.length=3∧R=.mk 54 n.num n.name [at' rk 2,at' rk 1,at' rk 0])∨(∃k',(n.kind=40∧k'=41∨n.kind=44∧k'=45∨n.kind=45∧k'=44)∧R=.mk k' n.num n.name rk))):Calls Tryz.prog 119 #[v,.bool false] w (CopyPost R w):=by
 obtain⟨hok,hlen,ka,kc,rfl,hk⟩:=hv.open;have hA1:Below w.heap.size w (w.alloc (.cells #[.int .u8 n.kind,.int .i64 n.num,.string n.name,.slice ka n.kids.length kc] 30)):=(Below.refl _ _).alloc (Nat.le_refl _) _;have hA:Below w.heap.size w ((w.alloc (.cells #[.int .u8 n.kind,.int .i64 n.num,.string n.name,.slice ka n.kids.length kc] 30)).alloc (.cells #[.int .u8 0,.int .i64 0,.string ⟨#[]⟩,.slice none 0 0] 30)):=hA1.alloc hA1.size _;have HX:=Lib.hid (zaq w (.cells #[.int .u8 n.kind,.int .i64 n.num,.string n.name,.slice ka n.kids.length kc] 30) (.cells #[.int .u8 0,.int .i64 0,.string ⟨#[]⟩,.slice none 0 0] 30));have HZ:=Lib.hid (zan w (.cells #[.int .u8 n.kind,.int .i64 n.num,.string n.name,.slice ka n.kids.length kc] 30) (.cells #[.int .u8 0,.int .i64 0,.string ⟨#[]⟩,.slice none 0 0] 30));have HSZ:Hid (((w.alloc (.cells #[.int .u8 n.kind,.int .i64 n.num,.string n.name,.slice ka n.kids.length kc] 30)).alloc (.cells #[.int .u8 0,.int .i64 0,.string ⟨#[]⟩,.slice none 0 0] 30)).heap.size=w.heap.size+1+1):=Lib.hid (by simp);have HK:=Lib.hid hk;obtain⟨i,hi,hz,hsize,hby⟩:=info_parts TNd.inf;obtain⟨Z,hZ⟩:∃Z:Array Value,Z.size=n.kids.length*4∧∀w0:World,(Instr.makeSlice 28 (.int .i64 n.kids.length) (.int .i64 n.kids.length)).run Tryz.prog w0=.ok (.slice (some ⟨w0.heap.size,0,none⟩) n.kids.length n.kids.length) (w0.alloc (.cells Z 30)):=by refine⟨madeCells (Value.agg #[.int .u8 0,.int .i64 0,.string ByteArray.empty,.slice none 0 0]).cells (n.kids.length*4),size_madeCells _ _,fun w0=>?_⟩;have h:=run_makeSlice (P:=Tryz.prog) w0 28 30 i _ Tryz.underlying28 hi hz .i64 .i64 (n.kids.length:Int) (n.kids.length:Int) (by omega) (by omega) (by rw[hsize];simp;omega) (by rw[hby];omega) (by omega);rw[hsize]at h;simpa using h
 obtain⟨hZ1,hmk⟩:=hZ;have HZ1:=Lib.hid hZ1;have HOK:=Lib.hid hok;have HLN:=Lib.hid hl;clear hv hk hA1 hok hlen hl hi hz hsize hby hZ1;go_enter Tryz.func119,Tryz.ntmps119;go_wp2;generalize((w.alloc (.cells #[.int .u8 n.kind,.int .i64 n.num,.string n.name,.slice ka n.kids.length kc] 30)).alloc (.cells #[.int .u8 0,.int .i64 0,.string ⟨#[]⟩,.slice none 0 0] 30))=W at*;obtain⟨r0,r1,r2,r3⟩:=cells4 HX.out;have hws:w.heap.size<W.heap.size:=by rw[HSZ.out];omega
 go_cut[5](fun s wx=>InvCut n ka kc w rk s wx);case first=>go_region;all_goals go_wp2;go_meet;first|with_reducible exact zhO HX.out HZ.out HSZ.out HZ1.out hA|with_reducible exact zhP HX.out HZ.out HSZ.out HZ1.out hA
 case rest=>obtain⟨g5,gk,cur0,rfl,hst⟩:=hcut;have HST:=Lib.hid hst;obtain⟨p0,p1,p2,p3⟩:=cells4 hst.box;clear hst r0 r1 r2 r3 HX HZ HSZ HZ1 hmk hws hA;go_wp2;clear p0 p1 p2 p3;go_loopw[23](fun i wr=>∃(k:Nat)(cur:Array Value),i=.int .i64 k∧k≤n.kids.length∧InvSt n ka kc w g5 gk rk k cur wr)(fun i _=>n.kids.length-(intOf i).toNat);(case atStart=>exact⟨0,_,rfl,Nat.zero_le _,HST.out⟩);case round=>obtain⟨k,cur,rfl,hk,hst⟩:=hrel;have HS:=Lib.hid hst;have hbx:=hst.box;have HM:=Lib.hid hst.m;have HROW:=Lib.hid hst.row;have HSI:=Lib.hid hst.size;have hne5:=hst.ne;(have hne7:wr.heap.size≠gk:=by have h:=hst.row;rw[Array.getElem?_eq_some_iff]at h;have:=h.1;omega);have hbl:=hst.below;obtain⟨p0,p1,p2,p3⟩:=cells4 hbx;(have hwl:w.heap.size<wr.heap.size:=by rw[Array.getElem?_eq_some_iff]at hbx;exact hbx.1);clear hst hbx;by_cases hlt:k<n.kids.length;(·obtain⟨b,off,cap,kb,kd,he,hb,_,_,c0,c1,c2,c3,hnd⟩:=(HK.out.stays (Stays.of_below hbl)).at hlt;simp only[Value.slice.injEq]at he;obtain⟨rfl,-,rfl⟩:=he;have hA2:Below wr.heap.size wr (wr.alloc (.cells #[.int .u8 (at' n.kids k).kind,.int .i64 (at' n.kids k).num,.string (at' n.kids k).name,.slice kb (at' n.kids k).kids.length kd] 30)):=(Below.refl _ _).alloc (Nat.le_refl _) _;have HND:=Lib.hid (hnd.stays (Stays.of_below (zad hA2)));(have i0:(0:Int)≤(k:Int):=by omega);(have i1:(k:Int)<(n.kids.length:Int):=by omega);clear hnd;by_cases h57:n.kind=57;(·have HI2:=Lib.hid (HI.out k hlt (.inl h57) _ A _ HND.out);(have d1:(n.kind==57)=true:=by simp[h57]);have H57:=Lib.hid h57;clear h57;go_wp2;go_region_held3(fun w1=>w1.cell? ⟨g5,3,none⟩=some (.slice (some ⟨gk,0,none⟩) n.kids.length n.kids.length)∧w1.cell? ⟨wr.heap.size,0,none⟩=some (.int .u8 (at' n.kids k).kind)∧w1.cell? ⟨wr.heap.size,1,none⟩=some (.int .i64 (at' n.kids k).num)∧w1.cell? ⟨wr.heap.size,2,none⟩=some (.string (at' n.kids k).name)∧w1.cell? ⟨wr.heap.size,3,none⟩=some (.slice kb (at' n.kids k).kids.length kd))((refine cellsInv (a:=.int .u8 n.kind) (b:=.int .i64 n.num) (c:=.string n.name) (e:=30) (e':=30) ?_ ?_<;>(repeat(with_reducible first|exact HM.out|(refine zal ?_;(simp;done))|refine zaj ?_|refine zah ?_|(apply zac;focus assumption)|(refine zeE ?_ ?_;rotate_left;(focus assumption))))))(first|(go_at_call 119;refine HI2.out.mono ?_;rintro e w2⟨xa,xc,rfl,hx2,hb2⟩;obtain⟨y0,y1,y2,y3,q0,q1,q2,q3,qf⟩:=zdo (zac hb2 (zaj (zah HROW.out))) HSI.out hlt;have HX2:=Lib.hid hx2;clear hx2));all_goals go_wp2;(have hB2:Below wr.heap.size wr w2:=by(repeat(with_reducible first|exact Below.refl _ _|refine zad ?_|refine zaa ?_|(apply zab;focus assumption))));refine⟨⟨k+1,_,by go_num,by omega,HS.out.step hlt hB2 (HX2.out.stays (zbo (Below.size (zad hA2))))⟩,by simp[intOf];omega⟩);·(have d1:(n.kind==57)=false:=by simp[h57]);by_cases hk57:(at' n.kids k).kind=57;(·have HI2:=Lib.hid (HI.out k hlt (.inr hk57) _ A _ HND.out);(have d2:((at' n.kids k).kind==57)=true:=by simp[hk57]);clear h57 hk57;go_wp2;go_region_held3(fun w1=>w1.cell? ⟨g5,3,none⟩=some (.slice (some ⟨gk,0,none⟩) n.kids.length n.kids.length)∧w1.cell? ⟨wr.heap.size,0,none⟩=some (.int .u8 (at' n.kids k).kind)∧w1.cell? ⟨wr.heap.size,1,none⟩=some (.int .i64 (at' n.kids k).num)∧w1.cell? ⟨wr.heap.size,2,none⟩=some (.string (at' n.kids k).name)∧w1.cell? ⟨wr.heap.size,3,none⟩=some (.slice kb (at' n.kids k).kids.length kd))((refine cellsInv (a:=.int .u8 n.kind) (b:=.int .i64 n.num) (c:=.string n.name) (e:=30) (e':=30) ?_ ?_<;>(repeat(with_reducible first|exact HM.out|(refine zal ?_;(simp;done))|refine zaj ?_|refine zah ?_|(apply zac;focus assumption)|(refine zeE ?_ ?_;rotate_left;(focus assumption))))))(first|(go_at_call 119;refine HI2.out.mono ?_;rintro e w2⟨xa,xc,rfl,hx2,hb2⟩;obtain⟨y0,y1,y2,y3,q0,q1,q2,q3,qf⟩:=zdo (zac hb2 (zaj (zah HROW.out))) HSI.out hlt;have HX2:=Lib.hid hx2;clear hx2));all_goals go_wp2;(have hB2:Below wr.heap.size wr w2:=by(repeat(with_reducible first|exact Below.refl _ _|refine zad ?_|refine zaa ?_|(apply zab;focus assumption))));refine⟨⟨k+1,_,by go_num,by omega,HS.out.step hlt hB2 (HX2.out.stays (zbo (Below.size (zad hA2))))⟩,by simp[intOf];omega⟩);·obtain⟨hrk,hszk⟩:=HC.out k hlt (by rintro(h|h);exact h57 h;exact hk57 h);have HI2:=Lib.hid (zfh _ _ A _ hszk HND.out);have HRK:=Lib.hid hrk;(have d2:((at' n.kids k).kind==57)=false:=by simp[hk57]);clear h57 hk57 hrk;go_wp2;go_region_held3(fun w1=>w1.cell? ⟨g5,3,none⟩=some (.slice (some ⟨gk,0,none⟩) n.kids.length n.kids.length)∧w1.cell? ⟨wr.heap.size,0,none⟩=some (.int .u8 (at' n.kids k).kind)∧w1.cell? ⟨wr.heap.size,1,none⟩=some (.int .i64 (at' n.kids k).num)∧w1.cell? ⟨wr.heap.size,2,none⟩=some (.string (at' n.kids k).name)∧w1.cell? ⟨wr.heap.size,3,none⟩=some (.slice kb (at' n.kids k).kids.length kd))((refine cellsInv (a:=.int .u8 n.kind) (b:=.int .i64 n.num) (c:=.string n.name) (e:=30) (e':=30) ?_ ?_<;>(repeat(with_reducible first|exact HM.out|(refine zal ?_;(simp;done))|refine zaj ?_|refine zah ?_|(apply zac;focus assumption)|(refine zeE ?_ ?_;rotate_left;(focus assumption))))))(first|(go_at_call 148;refine HI2.out.mono ?_;rintro e w2⟨xa,xc,rfl,hx2,hb2⟩;obtain⟨y0,y1,y2,y3,q0,q1,q2,q3,qf⟩:=zdo (zac hb2 (zaj (zah HROW.out))) HSI.out hlt;have HX2:=Lib.hid hx2;clear hx2));all_goals go_wp2;(have hB2:Below wr.heap.size wr w2:=by(repeat(with_reducible first|exact Below.refl _ _|refine zad ?_|refine zaa ?_|(apply zab;focus assumption))));have hst2:=HS.out.step (rk:=rk) (k:=k) hlt hB2 (by rw[HRK.out];exact HX2.out.stays (zbo (Below.size (zad hA2))));exact⟨⟨k+1,_,by go_num,by omega,hst2⟩,by simp[intOf];omega⟩);·(obtain rfl:k=n.kids.length:=by omega);(have hlt':¬(n.kids.length:Int)<(n.kids.length:Int):=by omega);have hm:=HS.out.m;have hzr:=HS.out.zero;obtain⟨m0,m1,m2,m3⟩:=cells4 hm;obtain⟨z0,z1,z2,z3⟩:=cells4 hzr;have mf:=unfrozen hm;have zf:=unfrozen hzr;have h5:=HS.out.h5;have hgk:=HS.out.hk;have HKD:=Lib.hid (HS.out.kids HLN.out (by omega));clear hm hzr;rcases HR.out with⟨e57,e1,hR⟩|⟨e54,e3,hR⟩|⟨k',hkk,hR⟩;(·have HRR:=Lib.hid hR;have HRV:Hid (Calls Tryz.prog 149 #[.slice (some ⟨gk,0,none⟩) n.kids.length n.kids.length] wr fun e w'=>e=.returned (.tuple #[])∧wr=w'):=Lib.hid (by rw[e1];exact zgA _ _ _);(have d57:(n.kind==57)=true:=by simp[e57]);have HE1:=Lib.hid e1;have HE57:=Lib.hid e57;clear hR e1 e57;go_wp2_with(go_at_call 149;refine HRV.out.mono ?_;rintro e w2⟨rfl,rfl⟩);(try simp only[Exit.inBlock,Exit.then]);refine bodyPost_ret (results_cell_row (P:=Tryz.prog) rfl _ _ (w.heap.size+1) _ _ _ _ rfl (set4 HS.out.zero _ _ _ _) Tryz.underlying30 rfl (by kernel_rfl)) rfl ?_;have hK4:=(((zaf wr (w.heap.size+1) 0 (.int .u8 n.kind)).same (zaf _ (w.heap.size+1) 1 (.int .i64 n.num))).same (zaf _ (w.heap.size+1) 2 (.string n.name))).same (zaf _ (w.heap.size+1) 3 (.slice (some ⟨gk,0,none⟩) n.kids.length n.kids.length));have hkd:=HKD.out.stays (A':=Up w.heap.size) ⟨hK4.size,fun b hb a=>⟨hK4.block b hb (fun e=>by have:=a.1;omega),by have:=a.1;unfold Up;omega⟩⟩;have hok:=HOK.out;exact zeP (by rw[HRR.out,HE57.out]) HLN.out hok hkd (zar hbl (by omega)));(·have HRR:=Lib.hid hR;have HE3:=Lib.hid e3;have HE54:=Lib.hid e54;(have d57:(n.kind==57)=false:=by simp[e54]);(have d52:(n.kind==52)=false:=by simp[e54]);(have d53:(n.kind==53)=false:=by simp[e54]);(have d54:(n.kind==54)=true:=by simp[e54]);(have l3:(n.kids.length:Int)-1=2:=by omega);(have j0:(0:Int)<(n.kids.length:Int):=by omega);(have j2:(2:Int)<(n.kids.length:Int):=by omega);(have jn0:0<n.kids.length:=by omega);(have jn2:2<n.kids.length:=by omega);have qf:=unfrozen HROW.out;obtain⟨xa,xc,q0,q1,q2,q3,hq⟩:=HS.out.cells (j:=0) jn0 jn0;obtain⟨ya,yc,t0,t1,t2,t3,ht⟩:=HS.out.cells (j:=2) jn2 jn2;have HQ:=Lib.hid hq;have HT:=Lib.hid ht;simp only[Nat.zero_mul,Nat.zero_add]at q0 q1 q2 q3;simp only[Nat.reduceMul,Nat.reduceAdd]at t0 t1 t2 t3;clear hR e3 e54 hq ht;go_wp2;have HSW0:=HS.out.swapped HE3.out HQ.out HT.out;have HSW:=Lib.hid HSW0;clear HSW0;go_region;obtain⟨wc,hwc⟩:∃wc,((((((((((wr).setCell ⟨gk,0,none⟩ (.int .u8 (at' rk 2).kind)).setCell ⟨gk,1,none⟩ (.int .i64 (at' rk 2).num)).setCell ⟨gk,2,none⟩ (.string (at' rk 2).name)).setCell ⟨gk,3,none⟩ (.slice ya (at' rk 2).kids.length yc))).setCell ⟨gk,8,none⟩ (.int .u8 (at' rk 0).kind)).setCell ⟨gk,9,none⟩ (.int .i64 (at' rk 0).num)).setCell ⟨gk,10,none⟩ (.string (at' rk 0).name)).setCell ⟨gk,11,none⟩ (.slice xa (at' rk 0).kids.length xc)).drew=wc:=⟨_,rfl⟩;rw[hwc]at HSW;rw[hwc];clear hwc;obtain⟨n0,n1,n2,n3⟩:=cells4 HSW.out.m;obtain⟨v0,v1,v2,v3⟩:=cells4 HSW.out.zero;have nf:=unfrozen HSW.out.zero;clear m0 m1 m2 m3 z0 z1 z2 z3 mf zf q0 q1 q2 q3 t0 t1 t2 t3 qf p0 p1 p2 p3;go_wp2;(try simp only[Exit.inBlock,Exit.then]);refine bodyPost_ret (results_cell_row (P:=Tryz.prog) rfl _ _ (w.heap.size+1) _ _ _ _ rfl (set4 HSW.out.zero _ _ _ _) Tryz.underlying30 rfl (by kernel_rfl)) rfl ?_;have hK4:=(((zaf wc (w.heap.size+1) 0 (.int .u8 n.kind)).same (zaf _ (w.heap.size+1) 1 (.int .i64 n.num))).same (zaf _ (w.heap.size+1) 2 (.string n.name))).same (zaf _ (w.heap.size+1) 3 (.slice (some ⟨gk,0,none⟩) n.kids.length n.kids.length));have hkd:=HSW.out.kids.stays (A':=Up w.heap.size) ⟨hK4.size,fun b hb a=>⟨hK4.block b hb (fun e=>by have:=a.1;omega),by have:=a.1;unfold Up;omega⟩⟩;have hok:=HOK.out;have h3:=HE3.out;refine zeP (by rw[HRR.out,HE54.out]) (by rw[h3];rfl) hok ?_ (zar HSW.out.below (by omega));rw[h3]at hkd⊢;exact hkd);·have HRR:=Lib.hid hR;(have d57:(n.kind==57)=false:=by rcases hkk with⟨h,_⟩|⟨h,_⟩|⟨h,_⟩<;>simp[h]);(have d52:(n.kind==52)=false:=by rcases hkk with⟨h,_⟩|⟨h,_⟩|⟨h,_⟩<;>simp[h]);(have d53:(n.kind==53)=false:=by rcases hkk with⟨h,_⟩|⟨h,_⟩|⟨h,_⟩<;>simp[h]);(have d54:(n.kind==54)=false:=by rcases hkk with⟨h,_⟩|⟨h,_⟩|⟨h,_⟩<;>simp[h]);(have d50:(n.kind==50)=false:=by rcases hkk with⟨h,_⟩|⟨h,_⟩|⟨h,_⟩<;>simp[h]);(have d51:(n.kind==51)=false:=by rcases hkk with⟨h,_⟩|⟨h,_⟩|⟨h,_⟩<;>simp[h]);have HEX:=Lib.hid (zgi n.kind k' wr hkk);have HK':Hid (0≤k'∧k'≤255):=Lib.hid (by omega);have HZ2:Hid ((wr.setCell ⟨g5,0,none⟩ (.int .u8 k')).heap[w.heap.size+1]?=some (.cells #[.int .u8 0,.int .i64 0,.string ⟨#[]⟩,.slice none 0 0] 30)):=Lib.hid (by have hz:=HS.out.zero;rw[(zaf wr g5 0 (.int .u8 k')).block _ (by rw[Array.getElem?_eq_some_iff]at hz;exact hz.1) (by omega)];exact hz);(have hne1:w.heap.size+1≠g5:=by omega);clear hR hkk;go_wp2_with(go_at_call 150;refine HEX.out.mono ?_;rintro e w2⟨rfl,rfl⟩);(try simp only[Exit.inBlock,Exit.then]);refine bodyPost_ret (results_cell_row (P:=Tryz.prog) rfl _ _ (w.heap.size+1) _ _ _ _ rfl (set4 HZ2.out _ _ _ _) Tryz.underlying30 rfl (by kernel_rfl)) rfl ?_;have hK:=zaf wr g5 0 (.int .u8 k');have hK4:=(((zaf (wr.setCell ⟨g5,0,none⟩ (.int .u8 k')) (w.heap.size+1) 0 (.int .u8 k')).same (zaf _ (w.heap.size+1) 1 (.int .i64 n.num))).same (zaf _ (w.heap.size+1) 2 (.string n.name))).same (zaf _ (w.heap.size+1) 3 (.slice (some ⟨gk,0,none⟩) n.kids.length n.kids.length));have hkd:=(HKD.out.stays (A':=fun b=>w.heap.size+2≤b) ⟨hK.size,fun b hb a=>⟨hK.block b hb a.2,a.1⟩⟩).stays (A':=Up w.heap.size) ⟨hK4.size,fun b hb a=>⟨hK4.block b hb (fun e=>by omega),by unfold Up;omega⟩⟩;have hok:=HOK.out;exact zeP HRR.out HLN.out ⟨HK'.out,hok.2⟩ hkd (zar (hbl.setCell (by show w.heap.size≤g5;omega) _) (by omega))
def Inverts(n R:Nd):Prop:=∀(v:Value)(A:Nat→Prop)(w:World),NdAt A w v n→Calls Tryz.prog 119 #[v,.bool false] w (CopyPost R w)
theorem zfA(k k':Int)(num:Int)(name:ByteArray)(kids:List Nd)(hl:kids.length≤3)(hk:k=40∧k'=41∨k=44∧k'=45∨k=45∧k'=44)(hb:∀j,j<kids.length→(at' kids j).kind≠57∧sizeN (at' kids j)≤100000):Inverts (.mk k num name kids) (.mk k' num name kids):=by
 intro v A w hv;refine zgn (.mk k num name kids) _ v A w kids hv rfl hl (Lib.hid fun j hj h=>?_) (Lib.hid fun j hj _=>⟨rfl,(hb j hj).2⟩) (Lib.hid (.inr (.inr ⟨k',hk,rfl⟩)));rcases h with h|h;·have h':k=57:=h;omega
 ·exact absurd h (hb j hj).1
theorem znF(n R:Nd)(v:Value)(A:Nat→Prop)(w:World)(hv:NdAt A w v n)(hp:Passes 117 n)(hi:Inverts n R):Calls Tryz.prog 97 #[v] w fun e w'=>∃ka kc,e=.returned (.tuple #[.agg #[.int .u8 R.kind,.int .i64 R.num,.string R.name,.slice ka R.kids.length kc],.int .i64 0])∧NdAt (Up w.heap.size) w' (.agg #[.int .u8 R.kind,.int .i64 R.num,.string R.name,.slice ka R.kids.length kc]) R∧Below w.heap.size w w':=by obtain⟨hok,hlen,ka,kc,rfl,hk⟩:=hv.open;have hA1:Below w.heap.size w (w.alloc (.cells #[.int .u8 n.kind,.int .i64 n.num,.string n.name,.slice ka n.kids.length kc] 30)):=(Below.refl _ _).alloc (Nat.le_refl _) _;have hA:Below w.heap.size w ((w.alloc (.cells #[.int .u8 n.kind,.int .i64 n.num,.string n.name,.slice ka n.kids.length kc] 30)).alloc (.cells #[.int .u8 0,.int .i64 0,.string ⟨#[]⟩,.slice none 0 0] 30)):=hA1.alloc hA1.size _;have HX:=Lib.hid (zaq w (.cells #[.int .u8 n.kind,.int .i64 n.num,.string n.name,.slice ka n.kids.length kc] 30) (.cells #[.int .u8 0,.int .i64 0,.string ⟨#[]⟩,.slice none 0 0] 30));have HZ:=Lib.hid (zan w (.cells #[.int .u8 n.kind,.int .i64 n.num,.string n.name,.slice ka n.kids.length kc] 30) (.cells #[.int .u8 0,.int .i64 0,.string ⟨#[]⟩,.slice none 0 0] 30));have HSZ:Hid (((w.alloc (.cells #[.int .u8 n.kind,.int .i64 n.num,.string n.name,.slice ka n.kids.length kc] 30)).alloc (.cells #[.int .u8 0,.int .i64 0,.string ⟨#[]⟩,.slice none 0 0] 30)).heap.size=w.heap.size+1+1):=Lib.hid (by simp);have HV:=Lib.hid (hv.stays (Stays.of_below hA));have HP:=Lib.hid (hp _ A _ HV.out);have HI:=Lib.hid hi;clear hv hk hp hi hA1 hok hlen;go_enter Tryz.func97,Tryz.ntmps97;go_wp2_with fail;generalize((w.alloc (.cells #[.int .u8 n.kind,.int .i64 n.num,.string n.name,.slice ka n.kids.length kc] 30)).alloc (.cells #[.int .u8 0,.int .i64 0,.string ⟨#[]⟩,.slice none 0 0] 30))=W at*;refine HP.out.mono ?_;rintro e w1⟨rfl,hb1⟩;obtain⟨r0,r1,r2,r3⟩:=cells4 (zac hb1 HX.out);have HIW:=Lib.hid (HI.out _ A w1 (HV.out.stays (Stays.of_below hb1)));go_wp2_with(go_at_call 119;refine HIW.out.mono ?_;rintro e w2⟨xa,xc,rfl,hx2,hb2⟩;have hr:=zac hb2 (zac hb1 HZ.out);obtain⟨z0,z1,z2,z3⟩:=cells4 hr;have f:=unfrozen hr;have HR:=Lib.hid hr;have HX2:=Lib.hid hx2;clear hr hx2);(try simp only[Exit.inBlock,Exit.then]);refine bodyPost_ret (zai (P:=Tryz.prog) rfl _ _ (w.heap.size+1) _ _ _ _ _ rfl (set4 HR.out _ _ _ _) rfl Tryz.underlying30 rfl (by kernel_rfl)) rfl ?_;have hB2:Below w.heap.size w w2:=hA.trans ((hb1.trans (hb2.mono hb1.size)).mono hA.size);have hz1:=hb1.size;have hzz:=HSZ.out;have hK4:=(((zaf w2 (w.heap.size+1) 0 (.int .u8 R.kind)).same (zaf _ (w.heap.size+1) 1 (.int .i64 R.num))).same (zaf _ (w.heap.size+1) 2 (.string R.name))).same (zaf _ (w.heap.size+1) 3 (.slice xa R.kids.length xc));refine⟨_,_,rfl,?_,zar hB2 (by omega)⟩;exact HX2.out.stays ⟨hK4.size,fun b hb a=>⟨hK4.block b hb (fun e=>by have:w1.heap.size≤b:=a;omega),by have:w1.heap.size≤b:=a;unfold Up;omega⟩⟩
end Go.Proofs.YtnjfnellghhkaaaGreatDoor
