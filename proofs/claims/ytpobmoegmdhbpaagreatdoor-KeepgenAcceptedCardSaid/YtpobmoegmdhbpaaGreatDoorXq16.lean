/- Contracts and plain lemmas (PGood, PSize, PDig, PInv): no statement of the seat is proved here. -/
import Derived.Test.YtpobmoegmdhbpaaGreatDoorXq03
import Derived.Test.YtpobmoegmdhbpaaGreatDoorXq02
import Derived.Test.YtpobmoegmdhbpaaGreatDoorXq13
/- What the normal form of a valid function is like:its names and the numbers of its arguments. No program in sight. -/
set_option linter.unusedSimpArgs false
set_option linter.unusedVariables false
set_option linter.unusedSectionVars false
namespace Go.Proofs.YtpobmoegmdhbpaaGreatDoor
def GName (s:ByteArray):Prop:=nameB s=true∨∃ i,i≤10000∧s=tname i
mutual
def GoodB (lib:List Fn):Bd→Prop
 | .mk tn _ op num name args thn els=>GName tn∧(∀ a ∈ args,GName a)∧(op=80∧0≤num∨op=81∧args.length=1∨op=82∧(8≤num∧num≤23)∧args.length=2∨op=83∧args.length=1∨
    op=85∧args.length≤8∧0≤findF lib name∨op=86∨op=87∧args.length=2∨(op=88∨op=89∨op=90)∧args.length=1)∧GoodBs lib thn∧GoodBs lib els
def GoodBs (lib:List Fn):List Bd→Prop
 | []=>True
 | b :: r=>GoodB lib b∧GoodBs lib r
end
theorem GoodBs.append {lib:List Fn}:∀ {l m:List Bd},GoodBs lib l→GoodBs lib m→GoodBs lib (l ++ m)
 | [],_,_,h=>h
 | b :: l,m,h,h'=>by
   rw [GoodBs] at h
   rw [List.cons_append,GoodBs]
   exact ⟨h.1,h.2.append h'⟩
theorem GoodBs.one {lib:List Fn} {b:Bd} (h:GoodB lib b):GoodBs lib [b]:=by
 rw [GoodBs];exact ⟨h,by rw [GoodBs];trivial⟩
theorem GoodBs.nil (lib:List Fn):GoodBs lib []:=by rw [GoodBs];trivial
theorem GoodBs.mem {lib:List Fn}:∀ {l:List Bd},GoodBs lib l→∀ b ∈ l,GoodB lib b
 | [],_,b,hb=>by simp at hb
 | c :: l,h,b,hb=>by
   rw [GoodBs] at h
   rcases List.mem_cons.1 hb with rfl|hb
   · exact h.1
   · exact h.2.mem b hb
def Agree (vis:Vis) (env:Env):Prop:=∀ s,match env s with|some p=>GName p.name∧vis s=some p.list|none=>vis s=none
def TNamed (ts:List Par):Prop:=∀ j,j < ts.length→(at' ts j).name=tname j
theorem TNamed.snoc {ts:List Par} (h:TNamed ts) (b:Bool):TNamed (ts ++ [⟨tname ts.length,b⟩]):=by
 intro j hj
 by_cases e:j < ts.length
 · rw [at',List.getD_eq_getElem?_getD,List.getElem?_append_left e,← List.getD_eq_getElem?_getD];exact h j e
 · obtain rfl:j=ts.length:=by simp at hj;omega
   simp [at']
theorem TNamed.set {ts:List Par} (h:TNamed ts) (i:Nat) (b:Bool):TNamed (setTy ts i b):=by
 intro j hj
 rw [zat] at hj
 unfold setTy
 by_cases e:i=j
 · subst e
   simp [at',hj]
   have:=h i hj
   simpa [at',List.getElem?_eq_getElem hj] using this
 · have:=h j hj
   simp [at',List.getElem?_set_ne e] at this ⊢
   exact this
theorem zfw {ts:List Par} {i:Nat} (hi:i < ts.length) (b:Bool):at' (setTy ts i b) i=⟨(at' ts i).name,b⟩:=by simp [setTy,at',hi]
theorem Agree.put {vis:Vis} {env:Env} (h:Agree vis env) (s:ByteArray) (p:Par) (hp:GName p.name):Agree (vis.put s p.list) (env.put s p):=by
 intro y
 by_cases e:y=s
 · simp only [Env.put,Vis.put,if_pos e];exact ⟨hp,trivial⟩
 · simp only [Env.put,Vis.put,if_neg e];exact h y
theorem zog {env:Env} {s:ByteArray} {p:Par} (h:env s=none):(env.put s p).cut s=env:=by
 funext y
 by_cases e:y=s
 · subst e;simp [Env.cut,h]
 · simp [Env.cut,Env.put,e]
theorem Agree.none {vis:Vis} {env:Env} (h:Agree vis env) {s:ByteArray} (hs:vis s=none):env s=none:=by
 have:=h s
 cases he:env s with
 | none=>rfl
 | some p=>rw [he] at this;rw [this.2] at hs;cases hs
structure GoodX (lib:List Fn) (env:Env) (ty:Bool) (x:XR):Prop where
 env:x.env=env
 name:GName x.par.name
 list:x.par.list=ty
 ts:TNamed x.ts
 bs:GoodBs lib x.bs
structure GoodY (lib:List Fn) (env:Env) (n:Nat) (y:YR):Prop where
 env:y.env=env
 args:∀ a ∈ y.args,GName a
 len:y.args.length=n
 ts:TNamed y.ts
 bs:GoodBs lib y.bs
theorem zcj {i:Nat} (h:i≤10000):GName (tname i):=.inr ⟨i,h,rfl⟩
theorem zfC {lib:List Fn} {tn x:ByteArray} (b:Bool) (h1:GName tn) (h2:GName x):GoodB lib (varB tn b x):=by
 rw [varB,GoodB]
 exact ⟨h1,fun a ha=>by simp at ha;subst ha;exact h2,.inr (.inl ⟨rfl,rfl⟩),GoodBs.nil _,GoodBs.nil _⟩
theorem zgP {lib:List Fn} {num:Int} {name:ByteArray} {kids:List Nd} {vis:Vis} (h:(checkN lib (.mk 81 num name kids) vis).2=0) (hk:kids.length=0):∃ b,vis name=some b∧(checkN lib (.mk 81 num name kids) vis).1=b:=by
 obtain rfl:kids=[]:=List.eq_nil_of_length_eq_zero hk
 rw [checkN] at h ⊢
 simp only [reachE,if_true] at h ⊢
 cases hv:vis name with
 | none=>rw [hv] at h;simp at h
 | some b=>
   refine ⟨b,rfl,?_⟩
   simp [checkL]
theorem zbj {lib:List Fn} {k num:Int} {name:ByteArray} {kids:List Nd} {vis:Vis} (h81:k≠81) (h:(checkN lib (.mk k num name kids) vis).2=0):
 reachE lib vis k name kids.length=0∧(checkL lib (decide (k=84)) name kids 0 [] vis).2=0∧(resultT lib k name (checkL lib (decide (k=84)) name kids 0 [] vis).1).2=0∧(checkN lib (.mk k num name kids) vis).1=(resultT lib k name (checkL lib (decide (k=84)) name kids 0 [] vis).1).1:=by
 rw [checkN] at h ⊢
 by_cases hr:reachE lib vis k name kids.length=0
 · rw [if_neg (by simpa using hr)] at h ⊢
   simp only [] at h ⊢
   by_cases hc:(checkL lib (decide (k=84)) name kids 0 [] vis).2=0
   · rw [if_neg (by simpa using hc),if_neg h81] at h ⊢
     exact ⟨hr,hc,h,rfl⟩
   · rw [if_pos hc] at h;exact absurd h hc
 · rw [if_pos hr] at h;exact absurd h hr
theorem zbW {lib:List Fn} {k:Int} {name:ByteArray} {types:List Bool} (h:(resultT lib k name types).2=0):types=(wantT lib k name types).1∧(resultT lib k name types).1=(wantT lib k name types).2:=by
 unfold resultT at h ⊢
 by_cases e:types=(wantT lib k name types).1
 · rw [if_pos e];exact ⟨e,rfl⟩
 · rw [if_neg e] at h;simp at h
theorem zaB {lib:List Fn} {b:Bool} {name:ByteArray} {n:Nd} {r:List Nd} {j:Nat} {types:List Bool} {vis:Vis} (h:(checkL lib b name (n :: r) j types vis).2=0):
 (checkN lib n (if b∧j=1 then vis.put name (types.getD 0 false) else vis)).2=0∧(checkL lib b name r (j+1) (types ++ [(checkN lib n (if b∧j=1 then vis.put name (types.getD 0 false) else vis)).1]) vis).2=0∧checkL lib b name (n :: r) j types vis=checkL lib b name r (j+1) (types ++ [(checkN lib n (if b∧j=1 then vis.put name (types.getD 0 false) else vis)).1]) vis:=by
 rw [checkL] at h ⊢
 generalize checkN lib n (if b∧j=1 then vis.put name (types.getD 0 false) else vis)=C at *
 by_cases hc:C.2=0
 · simp only [hc,ne_eq,not_true_eq_false,if_false] at h ⊢
   exact ⟨trivial,h,trivial⟩
 · simp only [hc,ne_eq,not_false_eq_true,if_true] at h
/- exprN,case by case -/
theorem zgY (lib:List Fn) (num:Int) (name:ByteArray) (kids:List Nd) (env:Env) (ts:List Par):exprN lib (.mk 81 num name kids) env ts=⟨ts,[],(env name).getD default,env⟩:=by
 unfold exprN;rw [if_pos rfl]
theorem zdr (lib:List Fn) (num:Int) (name:ByteArray) (a b:Nd) (env:Env) (ts:List Par):exprN lib (.mk 84 num name [a,b]) env ts =
 (let x:=exprN lib a env ts;let y:=exprN lib b (x.env.put name x.par) x.ts;⟨y.ts,x.bs ++ y.bs,y.par,y.env.cut name⟩):=by
 conv=>lhs;unfold exprN
 rw [if_neg (by omega),if_pos rfl]
theorem zir (lib:List Fn) (num:Int) (name:ByteArray) (c a b:Nd) (env:Env) (ts:List Par):exprN lib (.mk 83 num name [c,a,b]) env ts =
 (let x:=exprN lib c env ts
  let i:=x.ts.length
  let y:=exprN lib a x.env (x.ts ++ [⟨tname i,false⟩])
  let ts1:=setTy y.ts i y.par.list
  let z:=exprN lib b y.env ts1
  let ts2:=setTy z.ts i z.par.list
  let t1:=at' ts1 i
  let t2:=at' ts2 i
  ⟨ts2,x.bs ++ [.mk t2.name t2.list 83 0 ByteArray.empty [x.par.name] (y.bs ++ [varB t1.name t1.list y.par.name]) (z.bs ++ [varB t2.name t2.list z.par.name])],t2,z.env⟩):=by
 conv=>lhs;unfold exprN
 rw [if_neg (by omega),if_neg (by omega),if_pos rfl]
theorem ziB (lib:List Fn) {k:Int} (num:Int) (name:ByteArray) (kids:List Nd) (env:Env) (ts:List Par) (h81:k≠81) (h84:k≠84) (h83:k≠83):exprN lib (.mk k num name kids) env ts =
 (let r:=argsN lib (decide (k=85)) kids env ts
  let list:=if k=85 then (fnAt lib (findF lib name)).list else opList k
  let t:Par:=⟨tname r.ts.length,list⟩
  ⟨r.ts ++ [t],r.bs ++ [.mk t.name t.list k (if k=85 then 0 else num) (if k=85 then name else ByteArray.empty) r.args [] []],t,r.env⟩):=by
 conv=>lhs;unfold exprN
 rw [if_neg h81,if_neg h84,if_neg h83]
mutual
theorem zbh (lib:List Fn) (hl:∀ i,i < lib.length→(at' lib i).params.length≤8):∀ (n:Nd) (vis:Vis) (env:Env) (ts:List Par),formedN n=true→(checkN lib n vis).2=0→Agree vis env→TNamed ts→ts.length+2 * sizeN n≤10000→
 GoodX lib env (checkN lib n vis).1 (exprN lib n env ts)
 | .mk k num name kids,vis,env,ts,hf,hc,hag,hts,hsz=>by
   rw [formedN,Bool.and_eq_true] at hf
   obtain ⟨hf1,hf2⟩:=hf
   by_cases h81:k=81
   · subst h81
     have hkl:kids.length=0:=by
      simp [formB] at hf1;simp [hf1.2]
     obtain ⟨b,hv,hty⟩:=zgP hc hkl
     have ha:=hag name
     rw [zgY]
     cases he:env name with
     | none=>rw [he] at ha;rw [hv] at ha;cases ha
     | some p=>
       rw [he] at ha
       rw [hv] at ha
       simp only [Option.some.injEq] at ha
       exact ⟨rfl,ha.1,by rw [hty,ha.2];rfl,hts,GoodBs.nil _⟩
   · obtain ⟨hr,hcl,hres,hty⟩:=zbj h81 hc
     rw [hty]
     by_cases h84:k=84
     · subst h84
       have hk2:kids.length=2:=by simp [formB] at hf1;exact hf1.2.2
       match kids,hk2 with
       | [a,b],_=>
         simp only [decide_true] at hcl hres ⊢
         obtain ⟨c1,c2,c3⟩:=zaB hcl
         rw [c3] at hres ⊢
         obtain ⟨d1,d2,d3⟩:=zaB c2
         rw [d3] at hres ⊢
         simp only [true_and,Nat.zero_ne_one,if_false,List.nil_append,Nat.zero_add,if_true,List.getD_cons_zero] at c1 d1 hres ⊢
         rw [formedL,formedL,Bool.and_eq_true,Bool.and_eq_true] at hf2
         rw [sizeN,sizeL,sizeL,sizeL] at hsz
         have hvn:vis name=none:=by
          simp [reachE] at hr
          cases h:vis name with
          | none=>rfl
          | some b=>simp [h] at hr
         have ga:=zbh lib hl a vis env ts hf2.1 c1 hag hts (by omega)
         have lena:=zap lib a env ts
         have hag2:Agree (vis.put name (checkN lib a vis).1) (env.put name (exprN lib a env ts).par):=by
          rw [← ga.list];exact hag.put name _ ga.name
         have gb:=zbh lib hl b (vis.put name (checkN lib a vis).1) (env.put name (exprN lib a env ts).par) (exprN lib a env ts).ts hf2.2.1 d1 hag2 ga.ts (by omega)
         rw [zdr]
         simp only [ga.env]
         refine ⟨by simp only [gb.env];exact zog (hag.none hvn),gb.name,?_,gb.ts,ga.bs.append gb.bs⟩
         rw [gb.list]
         obtain ⟨e1,e2⟩:=zbW hres
         rw [e2]
         simp [wantT,checkL]
     · by_cases h83:k=83
       · subst h83
         have hk3:kids.length=3:=by
          rw [formB] at hf1;simp at hf1;exact hf1.2
         match kids,hk3 with
         | [c,a,b],_=>
           simp only [show decide ((83:Int)=84)=false from rfl] at hcl hres ⊢
           obtain ⟨c1,c2,c3⟩:=zaB hcl
           rw [c3] at hres ⊢
           obtain ⟨d1,d2,d3⟩:=zaB c2
           rw [d3] at hres ⊢
           obtain ⟨e1,e2,e3⟩:=zaB d2
           rw [e3] at hres ⊢
           simp only [Bool.false_eq_true,false_and,if_false,List.nil_append,Nat.zero_add,List.cons_append] at c1 d1 e1 hres ⊢
           rw [formedL,formedL,formedL,Bool.and_eq_true,Bool.and_eq_true,Bool.and_eq_true] at hf2
           rw [sizeN,sizeL,sizeL,sizeL,sizeL] at hsz
           obtain ⟨r1,r2⟩:=zbW hres
           have gc:=zbh lib hl c vis env ts hf2.1 c1 hag hts (by omega)
           have lenc:=zap lib c env ts
           have ga:=zbh lib hl a vis env ((exprN lib c env ts).ts ++ [⟨tname (exprN lib c env ts).ts.length,false⟩]) hf2.2.1 d1 hag (gc.ts.snoc false) (by simp only [List.length_append,List.length_singleton];omega)
           have lena:=zap lib a env ((exprN lib c env ts).ts ++ [⟨tname (exprN lib c env ts).ts.length,false⟩])
           simp only [List.length_append,List.length_singleton] at lena
           have gb:=zbh lib hl b vis env (setTy (exprN lib a env ((exprN lib c env ts).ts ++ [⟨tname (exprN lib c env ts).ts.length,false⟩])).ts (exprN lib c env ts).ts.length (exprN lib a env ((exprN lib c env ts).ts ++ [⟨tname (exprN lib c env ts).ts.length,false⟩])).par.list) hf2.2.2.1 e1 hag (ga.ts.set _ _) (by rw [zat];omega)
           have lenb:=zap lib b env (setTy (exprN lib a env ((exprN lib c env ts).ts ++ [⟨tname (exprN lib c env ts).ts.length,false⟩])).ts (exprN lib c env ts).ts.length (exprN lib a env ((exprN lib c env ts).ts ++ [⟨tname (exprN lib c env ts).ts.length,false⟩])).par.list)
           rw [zat] at lenb
           rw [zir]
           simp only [gc.env,ga.env]
           generalize hX:exprN lib c env ts=X at *
           generalize hY:exprN lib a env (X.ts ++ [⟨tname X.ts.length,false⟩])=Y at *
           generalize hT:setTy Y.ts X.ts.length Y.par.list=T1 at *
           generalize hZ:exprN lib b env T1=Z at *
           have n1:(at' T1 X.ts.length).name=tname X.ts.length:=by
            have h:=ga.ts.set X.ts.length Y.par.list
            rw [hT] at h
            exact h _ (by rw [← hT,zat];omega)
           have hb2:=gb.ts.set X.ts.length Z.par.list
           have n2:(at' (setTy Z.ts X.ts.length Z.par.list) X.ts.length).name=tname X.ts.length:=hb2 _ (by rw [zat];omega)
           have hlt:X.ts.length≤10000:=by omega
           refine ⟨gb.env,by simp only [n2];exact zcj hlt,?_,hb2,gc.bs.append (GoodBs.one ?_)⟩
           · simp only [zfw (show X.ts.length < Z.ts.length by omega)]
             rw [gb.list,r2]
             simp only [checkL,wantT] at r1 ⊢
             simp at r1 ⊢
             exact r1.2
           · rw [GoodB,n1,n2]
             refine ⟨zcj hlt,fun s hs=>?_,.inr (.inr (.inr (.inl ⟨rfl,rfl⟩))),ga.bs.append (GoodBs.one (zfC _ (zcj hlt) ga.name)),gb.bs.append (GoodBs.one (zfC _ (zcj hlt) gb.name))⟩
             simp at hs;subst hs;exact gc.name
       · have hd:decide (k=84)=false:=by simp [h84]
         rw [hd] at hcl hres ⊢
         have gy:=zeW lib hl (decide (k=85)) name kids 0 [] vis env ts hf2 hcl hag hts (by rw [sizeN] at hsz;omega)
         have leny:=zby lib (decide (k=85)) kids env ts
         obtain ⟨r1,r2⟩:=zbW hres
         rw [sizeN] at hsz
         rw [ziB lib num name kids env ts h81 h84 h83]
         generalize hY:argsN lib (decide (k=85)) kids env ts=Y at *
         have hlt:Y.ts.length≤10000:=by omega
         refine ⟨gy.env,zcj hlt,?_,gy.ts.snoc _,gy.bs.append (GoodBs.one ?_)⟩
         · simp only []
           rw [r2]
           by_cases h85:k=85
           · simp [wantT,h85]
           · simp only [wantT,opList,if_neg h85,if_neg h84,if_neg h83]
             by_cases h82:k=82
             · subst h82;rfl
             · by_cases h86:k=86
               · subst h86;rfl
               · by_cases h87:k=87
                 · subst h87;rfl
                 · by_cases h88:k=88∨k=90
                   · rcases h88 with rfl|rfl <;> rfl
                   · by_cases h89:k=89
                     · subst h89;rfl
                     · simp [h82,h86,h87,h88,h89]
         · rw [GoodB]
           refine ⟨zcj hlt,gy.args,?_,GoodBs.nil _,GoodBs.nil _⟩
           rw [gy.len]
           by_cases h85:k=85
           · right;right;right;right;left
             subst h85
             rw [if_pos rfl]
             simp only [reachE] at hr
             simp only [show ((85:Int)=81)=False by simp,show ((85:Int)=84)=False by simp,if_false,if_true] at hr
             by_cases hlt0:findF lib name < 0
             · rw [if_pos hlt0] at hr;omega
             · rw [if_neg hlt0] at hr
               by_cases hn:kids.length=(fnAt lib (findF lib name)).params.length
               · refine ⟨rfl,?_,by omega⟩
                 rw [hn,fnAt]
                 by_cases hin:(findF lib name).toNat < lib.length
                 · exact hl _ hin
                 · rw [at',List.getD_eq_getElem?_getD,List.getElem?_eq_none (by omega)];exact Nat.zero_le _
               · rw [if_pos hn] at hr;omega
           · rw [if_neg h85]
             rw [formB] at hf1
             simp only [if_neg h81,if_neg h84,if_neg h85,if_neg h83] at hf1
             by_cases h80:k=80
             · left;rw [if_pos h80] at hf1;simp at hf1;exact ⟨h80,hf1.1⟩
             · rw [if_neg h80] at hf1
               by_cases h82:k=82
               · right;right;left;rw [if_pos h82] at hf1;simp at hf1;exact ⟨h82,⟨hf1.1,hf1.2.1⟩,hf1.2.2.2⟩
               · rw [if_neg h82] at hf1
                 by_cases hnn:num≠0∨name.size≠0
                 · rw [if_pos hnn] at hf1;simp at hf1
                 · rw [if_neg hnn] at hf1
                   by_cases h86:k=86
                   · right;right;right;right;right;left;exact h86
                   · rw [if_neg h86] at hf1
                     by_cases h1:k=88∨k=89∨k=90
                     · right;right;right;right;right;right;right;rw [if_pos h1] at hf1;exact ⟨h1,by simpa using hf1⟩
                     · rw [if_neg h1] at hf1
                       by_cases h87:k=87
                       · right;right;right;right;right;right;left;rw [if_pos h87] at hf1;exact ⟨h87,by simpa using hf1⟩
                       · rw [if_neg h87] at hf1;simp at hf1
theorem zeW (lib:List Fn) (hl:∀ i,i < lib.length→(at' lib i).params.length≤8) (call:Bool) (name:ByteArray):∀ (l:List Nd) (j:Nat) (types:List Bool) (vis:Vis) (env:Env) (ts:List Par),formedL l=true→(checkL lib false name l j types vis).2=0→Agree vis env→TNamed ts→ts.length+2 * sizeL l≤10000→
 GoodY lib env l.length (argsN lib call l env ts)
 | [],j,types,vis,env,ts,hf,hc,hag,hts,hsz=>by
   rw [argsN];exact ⟨rfl,fun a ha=>by simp at ha,rfl,hts,GoodBs.nil _⟩
 | n :: r,j,types,vis,env,ts,hf,hc,hag,hts,hsz=>by
   rw [formedL,Bool.and_eq_true] at hf
   obtain ⟨c1,c2,_⟩:=zaB hc
   simp only [Bool.false_eq_true,false_and,if_false] at c1 c2
   rw [sizeL] at hsz
   have gn:=zbh lib hl n vis env ts hf.1 c1 hag hts (by omega)
   have lenn:=zap lib n env ts
   rw [argsN]
   simp only [gn.env]
   generalize hX:exprN lib n env ts=X at *
   have hlt:X.ts.length≤10000:=by omega
   split
   · have gr:=zeW lib hl call name r (j+1) _ vis env (X.ts ++ [⟨tname X.ts.length,X.par.list⟩]) hf.2 c2 hag (gn.ts.snoc _) (by simp only [List.length_append,List.length_singleton];omega)
     refine ⟨gr.env,fun a ha=>?_,by simp only [List.length_cons,gr.len],gr.ts,gn.bs.append ?_⟩
     · rcases List.mem_cons.1 ha with rfl|ha
       · exact zcj hlt
       · exact gr.args a ha
     · rw [GoodBs];exact ⟨zfC _ (zcj hlt) gn.name,gr.bs⟩
   · have gr:=zeW lib hl call name r (j+1) _ vis env X.ts hf.2 c2 hag gn.ts (by omega)
     refine ⟨gr.env,fun a ha=>?_,by simp only [List.length_cons,gr.len],gr.ts,gn.bs.append gr.bs⟩
     rcases List.mem_cons.1 ha with rfl|ha
     · exact gn.name
     · exact gr.args a ha
end
end Go.Proofs.YtpobmoegmdhbpaaGreatDoor
/- Parameters of valid functions:no program in sight. -/
namespace Go.Proofs.YtpobmoegmdhbpaaGreatDoor
theorem zfu (l:List Par) (h:∀ p ∈ l,nameB p.name=true):Agree (parsV l) (parsEnv l):=by
 have key:∀ (l:List Par) (v:Vis) (e:Env),(∀ p ∈ l,nameB p.name=true)→Agree v e→Agree (l.foldl (fun v p=>v.put p.name p.list) v) (l.foldl (fun v p=>v.put p.name p) e):=by
  intro l
  induction l with
  | nil=>intro v e _ ha;exact ha
  | cons p r ih=>intro v e hp ha;exact ih _ _ (fun q hq=>hp q (List.mem_cons_of_mem _ hq)) (ha.put _ _ (.inl (hp p (List.mem_cons_self ..))))
 exact key l _ _ h (fun s=>rfl)
theorem zbB {l:List Par} (h:parsE l=0):∀ p ∈ l,nameB p.name=true:=by
 unfold parsE at h
 by_cases h8:8 < l.length
 · rw [if_pos h8] at h;omega
 · rw [if_neg h8] at h
   by_cases ha:(l.all fun p=>nameB p.name)=true
   · intro p hp
     exact List.all_eq_true.1 ha p hp
   · rw [if_neg ha] at h;omega
end Go.Proofs.YtpobmoegmdhbpaaGreatDoor
/- Numerals and the names of temporaries:no program in sight. -/
namespace Go.Proofs.YtpobmoegmdhbpaaGreatDoor
theorem zgG (u:Nat):∀ c ∈ Lib.decDigits u,48≤c.toNat∧c.toNat≤57:=by
 induction u using Nat.strongRecOn with
 | ind u ih=>
   intro c hc
   have one:∀ d:Nat,d < 10→c=UInt8.ofNat (48+d)→48≤c.toNat∧c.toNat≤57:=by
    intro d hd e
    subst e
    have:(UInt8.ofNat (48+d)).toNat=48+d:=by simp;omega
    omega
   rw [Lib.decDigits] at hc
   by_cases h:u < 10
   · rw [dif_pos h] at hc
     exact one u h (by simpa using hc)
   · rw [dif_neg h] at hc
     rcases List.mem_append.1 hc with hc|hc
     · exact ih (u / 10) (by omega) c hc
     · exact one (u % 10) (by omega) (by simpa using hc)
theorem zkc (u:Nat):Lib.decDigits u≠[]:=by
 rw [Lib.decDigits];split <;> simp
theorem zlx:∀ (k u:Nat),u < 10 ^ (k+1)→(Lib.decDigits u).length≤k+1
 | 0,u,h=>by rw [Lib.decDigits,dif_pos (by omega)];simp
 | k+1,u,h=>by
   rw [Lib.decDigits]
   split
   · simp
   · have:=zlx k (u / 10) (by rw [Nat.pow_succ] at h;omega)
     simp;omega
theorem znw:∀ (a b:Nat),Lib.decDigits a=Lib.decDigits b→a=b:=by
 intro a
 induction a using Nat.strongRecOn with
 | ind a ih=>
   intro b h
   have ofn:∀ c d:Nat,c < 10→d < 10→UInt8.ofNat (48+c)=UInt8.ofNat (48+d)→c=d:=by
    intro c d hc hd e
    have e1:(UInt8.ofNat (48+c)).toNat=48+c:=by simp;omega
    have e2:(UInt8.ofNat (48+d)).toNat=48+d:=by simp;omega
    rw [e] at e1;omega
   have big:∀ u,¬ u < 10→Lib.decDigits u=Lib.decDigits (u / 10) ++ [UInt8.ofNat (48+u % 10)]:=fun u hu=>by
    rw [Lib.decDigits,dif_neg hu]
   have pos:∀ u,1≤(Lib.decDigits u).length:=fun u=>by
    have:=zkc u
    cases h:Lib.decDigits u with
    | nil=>exact absurd h this
    | cons _ _=>simp
   by_cases ha:a < 10
   · rw [Lib.decDigits_one ha] at h
     by_cases hb:b < 10
     · rw [Lib.decDigits_one hb] at h;exact ofn a b ha hb (by simpa using h)
     · rw [big b hb] at h
       have h1:=congrArg List.length h
       have h2:=pos (b / 10)
       simp only [List.length_append,List.length_singleton] at h1;omega
   · rw [big a ha] at h
     by_cases hb:b < 10
     · rw [Lib.decDigits_one hb] at h
       have h1:=congrArg List.length h
       have h2:=pos (a / 10)
       simp only [List.length_append,List.length_singleton] at h1;omega
     · rw [big b hb] at h
       have h':=List.append_inj' h rfl
       have e1:=ih (a / 10) (by omega) (b / 10) h'.1
       have e2:=ofn (a % 10) (b % 10) (by omega) (by omega) (by simpa using h'.2)
       omega
theorem zbO {a b:Nat} (h:tname a=tname b):a=b:=by
 unfold tname at h
 injection h with h
 have:=congrArg Array.toList h
 simp at this
 exact znw a b this
end Go.Proofs.YtpobmoegmdhbpaaGreatDoor
/- The inverse of a tree,and the sizes of the statements of binds:no program in sight. -/
namespace Go.Proofs.YtpobmoegmdhbpaaGreatDoor
def invK (k num:Int) (name:ByteArray) (kids ik:List Nd):Nd:=
 if k=57 then .mk 57 num name ik.reverse
 else if k=40 then .mk 41 num name kids
 else if k=44 then .mk 45 num name kids
 else if k=45 then .mk 44 num name kids
 else if k=50 then .mk 51 num name kids
 else if k=52 then .mk 52 num name [at' kids 3,at' ik 1,at' ik 2,at' kids 0]
 else if k=54 then .mk 54 num name [at' kids 2,at' ik 1,at' kids 0]
 else .mk k num name kids
mutual
def invN:Nd→Nd
 | .mk k num name kids=>invK k num name kids (invL kids)
def invL:List Nd→List Nd
 | []=>[]
 | n :: r=>invN n :: invL r
end
theorem zeo:∀ l:List Nd,invL l=l.map invN
 | []=>by rw [invL];rfl
 | n :: r=>by rw [invL,zeo r];rfl
theorem zee (l:List Nd):(invL l).length=l.length:=by rw [zeo,List.length_map]
theorem zkl (l:List Nd) {j:Nat} (h:j < l.length):at' (invL l) j=invN (at' l j):=by rw [zeo,zax (by simpa using h),zax h];simp
theorem zbf:∀ l m:List Bd,sizeBs (l ++ m)=sizeBs l+sizeBs m
 | [],m=>by rw [List.nil_append,sizeBs];omega
 | b :: l,m=>by rw [List.cons_append,sizeBs,sizeBs,zbf l m];omega
theorem zgk (tn x:ByteArray) (b:Bool):sizeB (varB tn b x)=2:=by rw [varB,sizeB,sizeBs];rfl
mutual
theorem zbs (lib:List Fn):∀ (n:Nd) (env:Env) (ts:List Par),sizeBs (exprN lib n env ts).bs+3≤6 * sizeN n
 | .mk k num name kids,env,ts=>by
   unfold exprN
   rw [sizeN]
   split
   · simp only [sizeBs];omega
   · split
     · split
       · rename_i a b
         have ha:=zbs lib a env ts
         have hb:=zbs lib b ((exprN lib a env ts).env.put name (exprN lib a env ts).par) (exprN lib a env ts).ts
         simp only [sizeL,zbf]
         omega
       · simp only [sizeBs];omega
     · split
       · split
         · rename_i c a b
           have hc:=zbs lib c env ts
           have ha:=zbs lib a (exprN lib c env ts).env ((exprN lib c env ts).ts ++ [⟨tname (exprN lib c env ts).ts.length,false⟩])
           have hb:=zbs lib b (exprN lib a (exprN lib c env ts).env ((exprN lib c env ts).ts ++ [⟨tname (exprN lib c env ts).ts.length,false⟩])).env (setTy (exprN lib a (exprN lib c env ts).env ((exprN lib c env ts).ts ++ [⟨tname (exprN lib c env ts).ts.length,false⟩])).ts (exprN lib c env ts).ts.length (exprN lib a (exprN lib c env ts).env ((exprN lib c env ts).ts ++ [⟨tname (exprN lib c env ts).ts.length,false⟩])).par.list)
           simp only [sizeL,zbf,sizeBs,sizeB,zgk,List.length_singleton]
           omega
         · simp only [sizeBs];omega
       · have h:=zdG lib (decide (k=85)) kids env ts
         simp only [zbf,sizeBs,sizeB]
         omega
theorem zdG (lib:List Fn) (call:Bool):∀ (l:List Nd) (env:Env) (ts:List Par),sizeBs (argsN lib call l env ts).bs+(argsN lib call l env ts).args.length≤6 * sizeL l
 | [],env,ts=>by rw [argsN];simp [sizeBs]
 | n :: r,env,ts=>by
   rw [argsN,sizeL]
   have hn:=zbs lib n env ts
   split
   · have hr:=zdG lib call r (exprN lib n env ts).env ((exprN lib n env ts).ts ++ [⟨tname (exprN lib n env ts).ts.length,(exprN lib n env ts).par.list⟩])
     simp only [zbf,sizeBs,zgk,List.length_cons]
     omega
   · have hr:=zdG lib call r (exprN lib n env ts).env (exprN lib n env ts).ts
     simp only [zbf,List.length_cons]
     omega
end
theorem zaK:∀ l m:List Nd,sizeL (l ++ m)=sizeL l+sizeL m
 | [],m=>by rw [List.nil_append,sizeL];omega
 | b :: l,m=>by rw [List.cons_append,sizeL,sizeL,zaK l m];omega
theorem zfW:∀ l:List ByteArray,sizeL (l.map vN)=l.length
 | []=>by rw [List.map_nil,sizeL];rfl
 | s :: l=>by rw [List.map_cons,sizeL,zfW l];simp [vN,sizeN,sizeL];omega
theorem zaO (k:Int) (s:ByteArray) (l:List Nd):sizeN (nodeN k s l)=sizeL l+1:=by rw [nodeN,sizeN]
theorem zdi (s:ByteArray):sizeN (vN s)=1:=by simp [vN,sizeN,sizeL]
theorem zde (x:Int):sizeN (numN x)=1:=by simp [numN,sizeN,sizeL]
theorem zdz (p:ByteArray) (l:List ByteArray):sizeN (callN p l)=l.length+1:=by rw [callN,zaO,zfW]
mutual
theorem zjT (cf:CallF) (E:Nat) (hE:∀ nm,(cf nm).2.length≤E):∀ b:Bd,sizeL (bindN cf b)≤(10+E) * sizeB b
 | .mk tn list op num name args thn els=>by
   have h1:=zbr cf E hE thn
   have h2:=zbr cf E hE els
   have h3:=hE name
   rw [bindN,sizeB]
   have hm:(10+E) * (args.length+sizeBs thn+sizeBs els+1)=(10+E) * args.length+(10+E) * sizeBs thn+(10+E) * sizeBs els+(10+E):=by
    rw [Nat.mul_add,Nat.mul_add,Nat.mul_add,Nat.mul_one]
   rw [hm]
   have h4:args.length≤(10+E) * args.length:=Nat.le_mul_of_pos_left _ (by omega)
   repeat' split
   all_goals simp only [plusN,blockN,sizeL,zaO,zdi,zde,zdz,List.length_append,List.length_cons,List.length_nil]
   all_goals omega
theorem zbr (cf:CallF) (E:Nat) (hE:∀ nm,(cf nm).2.length≤E):∀ l:List Bd,sizeL (bindsN cf l)≤(10+E) * sizeBs l
 | []=>by rw [bindsN,sizeBs,sizeL];omega
 | b :: r=>by
   have h1:=zjT cf E hE b
   have h2:=zbr cf E hE r
   rw [bindsN,sizeBs,zaK,Nat.mul_add]
   omega
end
structure GoodF (lib:List Fn) (g:AFn):Prop where
 name:nameB g.name=true
 params:∀ p ∈ g.params,nameB p.name=true
 plen:g.params.length≤8
 temps:TNamed g.temps
 tlen:g.temps.length≤4000
 body:GoodBs lib g.body
 result:GName g.result
theorem zbg {lib:List Fn} (h:(validE lib).2=0) {i:Nat} (hi:i < lib.length):GoodF lib (normF lib (at' lib i))∧sizeBs (normF lib (at' lib i)).body≤6 * sizeN (at' lib i).body∧(normF lib (at' lib i)).temps.length≤2 * sizeN (at' lib i).body:=by
 have hv:=zaR h hi
 have hp:=zbB hv.pars
 have hx:=zbh lib (fun j hj=>zfQ (zaR h hj).pars) (at' lib i).body _ (parsEnv (at' lib i).params) [] hv.form hv.check (zfu _ hp) (fun j hj=>by simp at hj) (by have:=hv.size;simp;omega)
 have hl:=zap lib (at' lib i).body (parsEnv (at' lib i).params) []
 have hz:=zbs lib (at' lib i).body (parsEnv (at' lib i).params) []
 have hsz:=hv.size
 simp only [List.length_nil] at hl
 refine ⟨⟨hv.name,hp,zfQ hv.pars,hx.ts,?_,hx.bs,hx.name⟩,?_,?_⟩
 · show (exprN lib (at' lib i).body (parsEnv (at' lib i).params) []).ts.length≤4000
   omega
 · show sizeBs (exprN lib (at' lib i).body (parsEnv (at' lib i).params) []).bs≤_
   omega
 · show (exprN lib (at' lib i).body (parsEnv (at' lib i).params) []).ts.length≤_
   omega
end Go.Proofs.YtpobmoegmdhbpaaGreatDoor
