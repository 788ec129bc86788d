/- Contracts and plain lemmas (PGood, PDig, PSem, PSize, PSem2, PSem3, PCost, PFuel, PExec): no statement of the seat is proved here. -/
import Derived.Test.YtjhimhlebbamoaaDoorZq03
import Derived.Test.YtjhimhlebbamoaaDoorZq02
/- What the normal form of a valid function is like:its names and the numbers of its arguments. No program in sight. -/
set_option linter.unusedSimpArgs false
set_option linter.unusedVariables false
set_option linter.unusedSectionVars false
namespace Go.Proofs.YtjhimhlebbamoaaDoor
def GName (s:ByteArray):Prop:=nameB s=true∨∃ i,i≤10000∧s=tname i
mutual
def GoodB (lib:List Fn):Bd→Prop
 | .mk tn _ op num name args thn els=>GName tn∧(∀ a ∈ args,GName a)∧(op=80∧0≤num∨op=81∧args.length=1∨op=82∧(8≤num∧num≤23)∧args.length=2∨op=83∧args.length=1∨
    op=85∧args.length≤8∧0≤findF lib name∨op=86∨op=87∧args.length=2∨(op=88∨op=89∨op=90)∧args.length=1)∧GoodBs lib thn∧GoodBs lib els
def GoodBs (lib:List Fn):List Bd→Prop
 | []=>True
 | b :: r=>GoodB lib b∧GoodBs lib r
end
theorem GoodBs.append {lib:List Fn}:∀ {l m:List Bd},GoodBs lib l→GoodBs lib m→GoodBs lib (l ++ m)
 | [],_,_,h=>h
 | b :: l,m,h,h'=>by
   rw [GoodBs] at h
   rw [List.cons_append,GoodBs]
   exact ⟨h.1,h.2.append h'⟩
theorem GoodBs.one {lib:List Fn} {b:Bd} (h:GoodB lib b):GoodBs lib [b]:=by
 rw [GoodBs];exact ⟨h,by rw [GoodBs];trivial⟩
theorem GoodBs.nil (lib:List Fn):GoodBs lib []:=by rw [GoodBs];trivial
theorem GoodBs.mem {lib:List Fn}:∀ {l:List Bd},GoodBs lib l→∀ b ∈ l,GoodB lib b
 | [],_,b,hb=>by simp at hb
 | c :: l,h,b,hb=>by
   rw [GoodBs] at h
   rcases List.mem_cons.1 hb with rfl|hb
   · exact h.1
   · exact h.2.mem b hb
def Agree (vis:Vis) (env:Env):Prop:=∀ s,match env s with|some p=>GName p.name∧vis s=some p.list|none=>vis s=none
def TNamed (ts:List Par):Prop:=∀ j,j < ts.length→(at' ts j).name=tname j
theorem TNamed.snoc {ts:List Par} (h:TNamed ts) (b:Bool):TNamed (ts ++ [⟨tname ts.length,b⟩]):=by
 intro j hj
 by_cases e:j < ts.length
 · rw [at',List.getD_eq_getElem?_getD,List.getElem?_append_left e,← List.getD_eq_getElem?_getD];exact h j e
 · obtain rfl:j=ts.length:=by simp at hj;omega
   simp [at']
theorem TNamed.set {ts:List Par} (h:TNamed ts) (i:Nat) (b:Bool):TNamed (setTy ts i b):=by
 intro j hj
 rw [setTy_len] at hj
 unfold setTy
 by_cases e:i=j
 · subst e
   simp [at',hj]
   have:=h i hj
   simpa [at',List.getElem?_eq_getElem hj] using this
 · have:=h j hj
   simp [at',List.getElem?_set_ne e] at this ⊢
   exact this
theorem setTy_at {ts:List Par} {i:Nat} (hi:i < ts.length) (b:Bool):at' (setTy ts i b) i=⟨(at' ts i).name,b⟩:=by simp [setTy,at',hi]
theorem Agree.put {vis:Vis} {env:Env} (h:Agree vis env) (s:ByteArray) (p:Par) (hp:GName p.name):Agree (vis.put s p.list) (env.put s p):=by
 intro y
 by_cases e:y=s
 · simp only [Env.put,Vis.put,if_pos e];exact ⟨hp,trivial⟩
 · simp only [Env.put,Vis.put,if_neg e];exact h y
theorem cut_put {env:Env} {s:ByteArray} {p:Par} (h:env s=none):(env.put s p).cut s=env:=by
 funext y
 by_cases e:y=s
 · subst e;simp [Env.cut,h]
 · simp [Env.cut,Env.put,e]
theorem Agree.none {vis:Vis} {env:Env} (h:Agree vis env) {s:ByteArray} (hs:vis s=none):env s=none:=by
 have:=h s
 cases he:env s with
 | none=>rfl
 | some p=>rw [he] at this;rw [this.2] at hs;cases hs
structure GoodX (lib:List Fn) (env:Env) (ty:Bool) (x:XR):Prop where
 env:x.env=env
 name:GName x.par.name
 list:x.par.list=ty
 ts:TNamed x.ts
 bs:GoodBs lib x.bs
structure GoodY (lib:List Fn) (env:Env) (n:Nat) (y:YR):Prop where
 env:y.env=env
 args:∀ a ∈ y.args,GName a
 len:y.args.length=n
 ts:TNamed y.ts
 bs:GoodBs lib y.bs
theorem gname_t {i:Nat} (h:i≤10000):GName (tname i):=.inr ⟨i,h,rfl⟩
theorem good_var {lib:List Fn} {tn x:ByteArray} (b:Bool) (h1:GName tn) (h2:GName x):GoodB lib (varB tn b x):=by
 rw [varB,GoodB]
 exact ⟨h1,fun a ha=>by simp at ha;subst ha;exact h2,.inr (.inl ⟨rfl,rfl⟩),GoodBs.nil _,GoodBs.nil _⟩
theorem check_var {lib:List Fn} {num:Int} {name:ByteArray} {kids:List Nd} {vis:Vis} (h:(checkN lib (.mk 81 num name kids) vis).2=0) (hk:kids.length=0):∃ b,vis name=some b∧(checkN lib (.mk 81 num name kids) vis).1=b:=by
 obtain rfl:kids=[]:=List.eq_nil_of_length_eq_zero hk
 rw [checkN] at h ⊢
 simp only [reachE,if_true] at h ⊢
 cases hv:vis name with
 | none=>rw [hv] at h;simp at h
 | some b=>
   refine ⟨b,rfl,?_⟩
   simp [checkL]
theorem check_split {lib:List Fn} {k num:Int} {name:ByteArray} {kids:List Nd} {vis:Vis} (h81:k≠81) (h:(checkN lib (.mk k num name kids) vis).2=0):
 reachE lib vis k name kids.length=0∧(checkL lib (decide (k=84)) name kids 0 [] vis).2=0∧(resultT lib k name (checkL lib (decide (k=84)) name kids 0 [] vis).1).2=0∧(checkN lib (.mk k num name kids) vis).1=(resultT lib k name (checkL lib (decide (k=84)) name kids 0 [] vis).1).1:=by
 rw [checkN] at h ⊢
 by_cases hr:reachE lib vis k name kids.length=0
 · rw [if_neg (by simpa using hr)] at h ⊢
   simp only [] at h ⊢
   by_cases hc:(checkL lib (decide (k=84)) name kids 0 [] vis).2=0
   · rw [if_neg (by simpa using hc),if_neg h81] at h ⊢
     exact ⟨hr,hc,h,rfl⟩
   · rw [if_pos hc] at h;exact absurd h hc
 · rw [if_pos hr] at h;exact absurd h hr
theorem result_ty {lib:List Fn} {k:Int} {name:ByteArray} {types:List Bool} (h:(resultT lib k name types).2=0):types=(wantT lib k name types).1∧(resultT lib k name types).1=(wantT lib k name types).2:=by
 unfold resultT at h ⊢
 by_cases e:types=(wantT lib k name types).1
 · rw [if_pos e];exact ⟨e,rfl⟩
 · rw [if_neg e] at h;simp at h
theorem checkL_cons {lib:List Fn} {b:Bool} {name:ByteArray} {n:Nd} {r:List Nd} {j:Nat} {types:List Bool} {vis:Vis} (h:(checkL lib b name (n :: r) j types vis).2=0):
 (checkN lib n (if b∧j=1 then vis.put name (types.getD 0 false) else vis)).2=0∧(checkL lib b name r (j+1) (types ++ [(checkN lib n (if b∧j=1 then vis.put name (types.getD 0 false) else vis)).1]) vis).2=0∧checkL lib b name (n :: r) j types vis=checkL lib b name r (j+1) (types ++ [(checkN lib n (if b∧j=1 then vis.put name (types.getD 0 false) else vis)).1]) vis:=by
 rw [checkL] at h ⊢
 generalize checkN lib n (if b∧j=1 then vis.put name (types.getD 0 false) else vis)=C at *
 by_cases hc:C.2=0
 · simp only [hc,ne_eq,not_true_eq_false,if_false] at h ⊢
   exact ⟨trivial,h,trivial⟩
 · simp only [hc,ne_eq,not_false_eq_true,if_true] at h
/- exprN,case by case -/
theorem exprN_var (lib:List Fn) (num:Int) (name:ByteArray) (kids:List Nd) (env:Env) (ts:List Par):exprN lib (.mk 81 num name kids) env ts=⟨ts,[],(env name).getD default,env⟩:=by
 unfold exprN;rw [if_pos rfl]
theorem exprN_let (lib:List Fn) (num:Int) (name:ByteArray) (a b:Nd) (env:Env) (ts:List Par):exprN lib (.mk 84 num name [a,b]) env ts =
 (let x:=exprN lib a env ts;let y:=exprN lib b (x.env.put name x.par) x.ts;⟨y.ts,x.bs ++ y.bs,y.par,y.env.cut name⟩):=by
 conv=>lhs;unfold exprN
 rw [if_neg (by omega),if_pos rfl]
theorem exprN_if (lib:List Fn) (num:Int) (name:ByteArray) (c a b:Nd) (env:Env) (ts:List Par):exprN lib (.mk 83 num name [c,a,b]) env ts =
 (let x:=exprN lib c env ts
  let i:=x.ts.length
  let y:=exprN lib a x.env (x.ts ++ [⟨tname i,false⟩])
  let ts1:=setTy y.ts i y.par.list
  let z:=exprN lib b y.env ts1
  let ts2:=setTy z.ts i z.par.list
  let t1:=at' ts1 i
  let t2:=at' ts2 i
  ⟨ts2,x.bs ++ [.mk t2.name t2.list 83 0 ByteArray.empty [x.par.name] (y.bs ++ [varB t1.name t1.list y.par.name]) (z.bs ++ [varB t2.name t2.list z.par.name])],t2,z.env⟩):=by
 conv=>lhs;unfold exprN
 rw [if_neg (by omega),if_neg (by omega),if_pos rfl]
theorem exprN_op (lib:List Fn) {k:Int} (num:Int) (name:ByteArray) (kids:List Nd) (env:Env) (ts:List Par) (h81:k≠81) (h84:k≠84) (h83:k≠83):exprN lib (.mk k num name kids) env ts =
 (let r:=argsN lib (decide (k=85)) kids env ts
  let list:=if k=85 then (fnAt lib (findF lib name)).list else opList k
  let t:Par:=⟨tname r.ts.length,list⟩
  ⟨r.ts ++ [t],r.bs ++ [.mk t.name t.list k (if k=85 then 0 else num) (if k=85 then name else ByteArray.empty) r.args [] []],t,r.env⟩):=by
 conv=>lhs;unfold exprN
 rw [if_neg h81,if_neg h84,if_neg h83]
mutual
theorem expr_good (lib:List Fn) (hl:∀ i,i < lib.length→(at' lib i).params.length≤8):∀ (n:Nd) (vis:Vis) (env:Env) (ts:List Par),formedN n=true→(checkN lib n vis).2=0→Agree vis env→TNamed ts→ts.length+2 * sizeN n≤10000→
 GoodX lib env (checkN lib n vis).1 (exprN lib n env ts)
 | .mk k num name kids,vis,env,ts,hf,hc,hag,hts,hsz=>by
   rw [formedN,Bool.and_eq_true] at hf
   obtain ⟨hf1,hf2⟩:=hf
   by_cases h81:k=81
   · subst h81
     have hkl:kids.length=0:=by
      simp [formB] at hf1;simp [hf1.2]
     obtain ⟨b,hv,hty⟩:=check_var hc hkl
     have ha:=hag name
     rw [exprN_var]
     cases he:env name with
     | none=>rw [he] at ha;rw [hv] at ha;cases ha
     | some p=>
       rw [he] at ha
       rw [hv] at ha
       simp only [Option.some.injEq] at ha
       exact ⟨rfl,ha.1,by rw [hty,ha.2];rfl,hts,GoodBs.nil _⟩
   · obtain ⟨hr,hcl,hres,hty⟩:=check_split h81 hc
     rw [hty]
     by_cases h84:k=84
     · subst h84
       have hk2:kids.length=2:=by simp [formB] at hf1;exact hf1.2.2
       match kids,hk2 with
       | [a,b],_=>
         simp only [decide_true] at hcl hres ⊢
         obtain ⟨c1,c2,c3⟩:=checkL_cons hcl
         rw [c3] at hres ⊢
         obtain ⟨d1,d2,d3⟩:=checkL_cons c2
         rw [d3] at hres ⊢
         simp only [true_and,Nat.zero_ne_one,if_false,List.nil_append,Nat.zero_add,if_true,List.getD_cons_zero] at c1 d1 hres ⊢
         rw [formedL,formedL,Bool.and_eq_true,Bool.and_eq_true] at hf2
         rw [sizeN,sizeL,sizeL,sizeL] at hsz
         have hvn:vis name=none:=by
          simp [reachE] at hr
          cases h:vis name with
          | none=>rfl
          | some b=>simp [h] at hr
         have ga:=expr_good lib hl a vis env ts hf2.1 c1 hag hts (by omega)
         have lena:=expr_len lib a env ts
         have hag2:Agree (vis.put name (checkN lib a vis).1) (env.put name (exprN lib a env ts).par):=by
          rw [← ga.list];exact hag.put name _ ga.name
         have gb:=expr_good lib hl b (vis.put name (checkN lib a vis).1) (env.put name (exprN lib a env ts).par) (exprN lib a env ts).ts hf2.2.1 d1 hag2 ga.ts (by omega)
         rw [exprN_let]
         simp only [ga.env]
         refine ⟨by simp only [gb.env];exact cut_put (hag.none hvn),gb.name,?_,gb.ts,ga.bs.append gb.bs⟩
         rw [gb.list]
         obtain ⟨e1,e2⟩:=result_ty hres
         rw [e2]
         simp [wantT,checkL]
     · by_cases h83:k=83
       · subst h83
         have hk3:kids.length=3:=by
          rw [formB] at hf1;simp at hf1;exact hf1.2
         match kids,hk3 with
         | [c,a,b],_=>
           simp only [show decide ((83:Int)=84)=false from rfl] at hcl hres ⊢
           obtain ⟨c1,c2,c3⟩:=checkL_cons hcl
           rw [c3] at hres ⊢
           obtain ⟨d1,d2,d3⟩:=checkL_cons c2
           rw [d3] at hres ⊢
           obtain ⟨e1,e2,e3⟩:=checkL_cons d2
           rw [e3] at hres ⊢
           simp only [Bool.false_eq_true,false_and,if_false,List.nil_append,Nat.zero_add,List.cons_append] at c1 d1 e1 hres ⊢
           rw [formedL,formedL,formedL,Bool.and_eq_true,Bool.and_eq_true,Bool.and_eq_true] at hf2
           rw [sizeN,sizeL,sizeL,sizeL,sizeL] at hsz
           obtain ⟨r1,r2⟩:=result_ty hres
           have gc:=expr_good lib hl c vis env ts hf2.1 c1 hag hts (by omega)
           have lenc:=expr_len lib c env ts
           have ga:=expr_good lib hl a vis env ((exprN lib c env ts).ts ++ [⟨tname (exprN lib c env ts).ts.length,false⟩]) hf2.2.1 d1 hag (gc.ts.snoc false) (by simp only [List.length_append,List.length_singleton];omega)
           have lena:=expr_len lib a env ((exprN lib c env ts).ts ++ [⟨tname (exprN lib c env ts).ts.length,false⟩])
           simp only [List.length_append,List.length_singleton] at lena
           have gb:=expr_good lib hl b vis env (setTy (exprN lib a env ((exprN lib c env ts).ts ++ [⟨tname (exprN lib c env ts).ts.length,false⟩])).ts (exprN lib c env ts).ts.length (exprN lib a env ((exprN lib c env ts).ts ++ [⟨tname (exprN lib c env ts).ts.length,false⟩])).par.list) hf2.2.2.1 e1 hag (ga.ts.set _ _) (by rw [setTy_len];omega)
           have lenb:=expr_len lib b env (setTy (exprN lib a env ((exprN lib c env ts).ts ++ [⟨tname (exprN lib c env ts).ts.length,false⟩])).ts (exprN lib c env ts).ts.length (exprN lib a env ((exprN lib c env ts).ts ++ [⟨tname (exprN lib c env ts).ts.length,false⟩])).par.list)
           rw [setTy_len] at lenb
           rw [exprN_if]
           simp only [gc.env,ga.env]
           generalize hX:exprN lib c env ts=X at *
           generalize hY:exprN lib a env (X.ts ++ [⟨tname X.ts.length,false⟩])=Y at *
           generalize hT:setTy Y.ts X.ts.length Y.par.list=T1 at *
           generalize hZ:exprN lib b env T1=Z at *
           have n1:(at' T1 X.ts.length).name=tname X.ts.length:=by
            have h:=ga.ts.set X.ts.length Y.par.list
            rw [hT] at h
            exact h _ (by rw [← hT,setTy_len];omega)
           have hb2:=gb.ts.set X.ts.length Z.par.list
           have n2:(at' (setTy Z.ts X.ts.length Z.par.list) X.ts.length).name=tname X.ts.length:=hb2 _ (by rw [setTy_len];omega)
           have hlt:X.ts.length≤10000:=by omega
           refine ⟨gb.env,by simp only [n2];exact gname_t hlt,?_,hb2,gc.bs.append (GoodBs.one ?_)⟩
           · simp only [setTy_at (show X.ts.length < Z.ts.length by omega)]
             rw [gb.list,r2]
             simp only [checkL,wantT] at r1 ⊢
             simp at r1 ⊢
             exact r1.2
           · rw [GoodB,n1,n2]
             refine ⟨gname_t hlt,fun s hs=>?_,.inr (.inr (.inr (.inl ⟨rfl,rfl⟩))),ga.bs.append (GoodBs.one (good_var _ (gname_t hlt) ga.name)),gb.bs.append (GoodBs.one (good_var _ (gname_t hlt) gb.name))⟩
             simp at hs;subst hs;exact gc.name
       · have hd:decide (k=84)=false:=by simp [h84]
         rw [hd] at hcl hres ⊢
         have gy:=args_good lib hl (decide (k=85)) name kids 0 [] vis env ts hf2 hcl hag hts (by rw [sizeN] at hsz;omega)
         have leny:=args_len lib (decide (k=85)) kids env ts
         obtain ⟨r1,r2⟩:=result_ty hres
         rw [sizeN] at hsz
         rw [exprN_op lib num name kids env ts h81 h84 h83]
         generalize hY:argsN lib (decide (k=85)) kids env ts=Y at *
         have hlt:Y.ts.length≤10000:=by omega
         refine ⟨gy.env,gname_t hlt,?_,gy.ts.snoc _,gy.bs.append (GoodBs.one ?_)⟩
         · simp only []
           rw [r2]
           by_cases h85:k=85
           · simp [wantT,h85]
           · simp only [wantT,opList,if_neg h85,if_neg h84,if_neg h83]
             by_cases h82:k=82
             · subst h82;rfl
             · by_cases h86:k=86
               · subst h86;rfl
               · by_cases h87:k=87
                 · subst h87;rfl
                 · by_cases h88:k=88∨k=90
                   · rcases h88 with rfl|rfl <;> rfl
                   · by_cases h89:k=89
                     · subst h89;rfl
                     · simp [h82,h86,h87,h88,h89]
         · rw [GoodB]
           refine ⟨gname_t hlt,gy.args,?_,GoodBs.nil _,GoodBs.nil _⟩
           rw [gy.len]
           by_cases h85:k=85
           · right;right;right;right;left
             subst h85
             rw [if_pos rfl]
             simp only [reachE] at hr
             simp only [show ((85:Int)=81)=False by simp,show ((85:Int)=84)=False by simp,if_false,if_true] at hr
             by_cases hlt0:findF lib name < 0
             · rw [if_pos hlt0] at hr;omega
             · rw [if_neg hlt0] at hr
               by_cases hn:kids.length=(fnAt lib (findF lib name)).params.length
               · refine ⟨rfl,?_,by omega⟩
                 rw [hn,fnAt]
                 by_cases hin:(findF lib name).toNat < lib.length
                 · exact hl _ hin
                 · rw [at',List.getD_eq_getElem?_getD,List.getElem?_eq_none (by omega)];exact Nat.zero_le _
               · rw [if_pos hn] at hr;omega
           · rw [if_neg h85]
             rw [formB] at hf1
             simp only [if_neg h81,if_neg h84,if_neg h85,if_neg h83] at hf1
             by_cases h80:k=80
             · left;rw [if_pos h80] at hf1;simp at hf1;exact ⟨h80,hf1.1⟩
             · rw [if_neg h80] at hf1
               by_cases h82:k=82
               · right;right;left;rw [if_pos h82] at hf1;simp at hf1;exact ⟨h82,⟨hf1.1,hf1.2.1⟩,hf1.2.2.2⟩
               · rw [if_neg h82] at hf1
                 by_cases hnn:num≠0∨name.size≠0
                 · rw [if_pos hnn] at hf1;simp at hf1
                 · rw [if_neg hnn] at hf1
                   by_cases h86:k=86
                   · right;right;right;right;right;left;exact h86
                   · rw [if_neg h86] at hf1
                     by_cases h1:k=88∨k=89∨k=90
                     · right;right;right;right;right;right;right;rw [if_pos h1] at hf1;exact ⟨h1,by simpa using hf1⟩
                     · rw [if_neg h1] at hf1
                       by_cases h87:k=87
                       · right;right;right;right;right;right;left;rw [if_pos h87] at hf1;exact ⟨h87,by simpa using hf1⟩
                       · rw [if_neg h87] at hf1;simp at hf1
theorem args_good (lib:List Fn) (hl:∀ i,i < lib.length→(at' lib i).params.length≤8) (call:Bool) (name:ByteArray):∀ (l:List Nd) (j:Nat) (types:List Bool) (vis:Vis) (env:Env) (ts:List Par),formedL l=true→(checkL lib false name l j types vis).2=0→Agree vis env→TNamed ts→ts.length+2 * sizeL l≤10000→
 GoodY lib env l.length (argsN lib call l env ts)
 | [],j,types,vis,env,ts,hf,hc,hag,hts,hsz=>by
   rw [argsN];exact ⟨rfl,fun a ha=>by simp at ha,rfl,hts,GoodBs.nil _⟩
 | n :: r,j,types,vis,env,ts,hf,hc,hag,hts,hsz=>by
   rw [formedL,Bool.and_eq_true] at hf
   obtain ⟨c1,c2,_⟩:=checkL_cons hc
   simp only [Bool.false_eq_true,false_and,if_false] at c1 c2
   rw [sizeL] at hsz
   have gn:=expr_good lib hl n vis env ts hf.1 c1 hag hts (by omega)
   have lenn:=expr_len lib n env ts
   rw [argsN]
   simp only [gn.env]
   generalize hX:exprN lib n env ts=X at *
   have hlt:X.ts.length≤10000:=by omega
   split
   · have gr:=args_good lib hl call name r (j+1) _ vis env (X.ts ++ [⟨tname X.ts.length,X.par.list⟩]) hf.2 c2 hag (gn.ts.snoc _) (by simp only [List.length_append,List.length_singleton];omega)
     refine ⟨gr.env,fun a ha=>?_,by simp only [List.length_cons,gr.len],gr.ts,gn.bs.append ?_⟩
     · rcases List.mem_cons.1 ha with rfl|ha
       · exact gname_t hlt
       · exact gr.args a ha
     · rw [GoodBs];exact ⟨good_var _ (gname_t hlt) gn.name,gr.bs⟩
   · have gr:=args_good lib hl call name r (j+1) _ vis env X.ts hf.2 c2 hag gn.ts (by omega)
     refine ⟨gr.env,fun a ha=>?_,by simp only [List.length_cons,gr.len],gr.ts,gn.bs.append gr.bs⟩
     rcases List.mem_cons.1 ha with rfl|ha
     · exact gn.name
     · exact gr.args a ha
end
end Go.Proofs.YtjhimhlebbamoaaDoor
/- Numerals and the names of temporaries:no program in sight. -/
namespace Go.Proofs.YtjhimhlebbamoaaDoor
theorem dig_range (u:Nat):∀ c ∈ Lib.decDigits u,48≤c.toNat∧c.toNat≤57:=by
 induction u using Nat.strongRecOn with
 | ind u ih=>
   intro c hc
   have one:∀ d:Nat,d < 10→c=UInt8.ofNat (48+d)→48≤c.toNat∧c.toNat≤57:=by
    intro d hd e
    subst e
    have:(UInt8.ofNat (48+d)).toNat=48+d:=by simp;omega
    omega
   rw [Lib.decDigits] at hc
   by_cases h:u < 10
   · rw [dif_pos h] at hc
     exact one u h (by simpa using hc)
   · rw [dif_neg h] at hc
     rcases List.mem_append.1 hc with hc|hc
     · exact ih (u / 10) (by omega) c hc
     · exact one (u % 10) (by omega) (by simpa using hc)
theorem dig_ne (u:Nat):Lib.decDigits u≠[]:=by
 rw [Lib.decDigits];split <;> simp
theorem dig_inj:∀ (a b:Nat),Lib.decDigits a=Lib.decDigits b→a=b:=by
 intro a
 induction a using Nat.strongRecOn with
 | ind a ih=>
   intro b h
   have ofn:∀ c d:Nat,c < 10→d < 10→UInt8.ofNat (48+c)=UInt8.ofNat (48+d)→c=d:=by
    intro c d hc hd e
    have e1:(UInt8.ofNat (48+c)).toNat=48+c:=by simp;omega
    have e2:(UInt8.ofNat (48+d)).toNat=48+d:=by simp;omega
    rw [e] at e1;omega
   have big:∀ u,¬ u < 10→Lib.decDigits u=Lib.decDigits (u / 10) ++ [UInt8.ofNat (48+u % 10)]:=fun u hu=>by
    rw [Lib.decDigits,dif_neg hu]
   have pos:∀ u,1≤(Lib.decDigits u).length:=fun u=>by
    have:=dig_ne u
    cases h:Lib.decDigits u with
    | nil=>exact absurd h this
    | cons _ _=>simp
   by_cases ha:a < 10
   · rw [Lib.decDigits_one ha] at h
     by_cases hb:b < 10
     · rw [Lib.decDigits_one hb] at h;exact ofn a b ha hb (by simpa using h)
     · rw [big b hb] at h
       have h1:=congrArg List.length h
       have h2:=pos (b / 10)
       simp only [List.length_append,List.length_singleton] at h1;omega
   · rw [big a ha] at h
     by_cases hb:b < 10
     · rw [Lib.decDigits_one hb] at h
       have h1:=congrArg List.length h
       have h2:=pos (a / 10)
       simp only [List.length_append,List.length_singleton] at h1;omega
     · rw [big b hb] at h
       have h':=List.append_inj' h rfl
       have e1:=ih (a / 10) (by omega) (b / 10) h'.1
       have e2:=ofn (a % 10) (b % 10) (by omega) (by omega) (by simpa using h'.2)
       omega
theorem tname_inj {a b:Nat} (h:tname a=tname b):a=b:=by
 unfold tname at h
 injection h with h
 have:=congrArg Array.toList h
 simp at this
 exact dig_inj a b this
end Go.Proofs.YtjhimhlebbamoaaDoor
/- Evaluation of functions and of their normal forms:no program in sight. -/
namespace Go.Proofs.YtjhimhlebbamoaaDoor
abbrev Ap:=Int→Int→Int→Int × Int
abbrev VEnv:=ByteArray→Vl
def VEnv.put (e:VEnv) (s:ByteArray) (v:Vl):VEnv:=fun y=>if y=s then v else e y
def noVl:Vl:=⟨false,0,[]⟩
def noEnv:VEnv:=fun _=>noVl
def cleanV (v:Vl):Vl:=if v.list then ⟨true,0,v.l⟩ else ⟨false,v.n,[]⟩
inductive Tr where
 | mk (f:Int) (args:List Vl) (res:Vl) (calls:List Tr)
instance:Inhabited Tr:=⟨.mk 0 [] noVl []⟩
def Tr.f:Tr→Int|.mk f _ _ _=>f
def Tr.args:Tr→List Vl|.mk _ a _ _=>a
def Tr.res:Tr→Vl|.mk _ _ r _=>r
def Tr.calls:Tr→List Tr|.mk _ _ _ c=>c
structure ER where
 val:Vl
 err:Int
 fuel:Int
 calls:List Tr
structure LR where
 vals:List Vl
 err:Int
 fuel:Int
 calls:List Tr
def evalL (f:Nd→Int→ER):List Nd→Int→LR
 | [],fuel=>⟨[],0,fuel,[]⟩
 | n :: r,fuel=>
   let x:=f n fuel
   if x.err≠0 then ⟨[],x.err,x.fuel,x.calls⟩
   else
    let y:=evalL f r x.fuel
    ⟨x.val :: y.vals,y.err,y.fuel,x.calls ++ y.calls⟩
def operateN (ap:Ap) (k num:Int) (l:List Vl):Vl × Int:=
 if k=82 then (⟨false,(ap num (at' l 0).n (at' l 1).n).1,[]⟩,(ap num (at' l 0).n (at' l 1).n).2)
 else if k=87 then (if 1000≤(at' l 1).l.length then (noVl,5) else (⟨true,0,(at' l 0).n :: (at' l 1).l⟩,0))
 else if k=88 then (if (at' l 0).l.length=0 then (noVl,13) else (⟨false,nth (at' l 0).l 0,[]⟩,0))
 else if k=89 then (if (at' l 0).l.length=0 then (noVl,13) else (⟨true,0,(at' l 0).l.tail⟩,0))
 else if k=90 then (if (at' l 0).l.length=0 then (⟨false,1,[]⟩,0) else (noVl,0))
 else (⟨true,0,[]⟩,0)
def bindPars (ps:List Par) (args:List Vl):VEnv:=(ps.zip args).foldl (fun e p=>e.put p.1.name p.2) noEnv
def evalN (ap:Ap) (lib:List Fn):Nat→Nd→VEnv→Int→Int→ER
 | 0,_,_,fuel,_=>⟨noVl,18,fuel,[]⟩
 | d+1,.mk k num name kids,env,fuel,active=>
   if fuel≤0 then ⟨noVl,18,fuel,[]⟩
   else if k=80 then ⟨⟨false,num,[]⟩,0,fuel - 1,[]⟩
   else if k=81 then ⟨env name,0,fuel - 1,[]⟩
   else if k=83 then
    let x:=evalN ap lib d (at' kids 0) env (fuel - 1) active
    if x.err≠0 then ⟨noVl,x.err,x.fuel,x.calls⟩
    else
     let y:=evalN ap lib d (if x.val.n≠0 then at' kids 1 else at' kids 2) env x.fuel active
     ⟨y.val,y.err,y.fuel,x.calls ++ y.calls⟩
   else if k=84 then
    let x:=evalN ap lib d (at' kids 0) env (fuel - 1) active
    if x.err≠0 then ⟨noVl,x.err,x.fuel,x.calls⟩
    else
     let y:=evalN ap lib d (at' kids 1) (env.put name x.val) x.fuel active
     ⟨y.val,y.err,y.fuel,x.calls ++ y.calls⟩
   else
    let r:=evalL (fun n f=>evalN ap lib d n env f active) kids (fuel - 1)
    if r.err≠0 then ⟨noVl,r.err,r.fuel,r.calls⟩
    else if k≠85 then ⟨(operateN ap k num r.vals).1,(operateN ap k num r.vals).2,r.fuel,r.calls⟩
    else if 30≤active then ⟨noVl,19,r.fuel,r.calls⟩
    else
     let f:=findF lib name
     let y:=evalN ap lib d (fnAt lib f).body (bindPars (fnAt lib f).params r.vals) r.fuel (active+1)
     if y.err≠0 then ⟨noVl,y.err,y.fuel,r.calls⟩
     else ⟨cleanV y.val,0,y.fuel,r.calls ++ [.mk f (r.vals.map cleanV) (cleanV y.val) y.calls]⟩
def resultB (ap:Ap) (op num:Int) (list:Bool) (args:List ByteArray) (vals:VEnv):Option Vl:=
 if op=80 then some ⟨false,num,[]⟩
 else if op=81 then some (vals (at' args 0))
 else if op=82 then some ⟨false,(ap num (vals (at' args 0)).n (vals (at' args 1)).n).1,[]⟩
 else if op=87 then some ⟨true,0,(vals (at' args 0)).n :: (vals (at' args 1)).l⟩
 else if op=88 then (if (vals (at' args 0)).l.length=0 then none else some ⟨false,nth (vals (at' args 0)).l 0,[]⟩)
 else if op=89 then (if (vals (at' args 0)).l.length=0 then none else some ⟨true,0,(vals (at' args 0)).l.tail⟩)
 else if op=90 then some (if (vals (at' args 0)).l.length=0 then ⟨false,1,[]⟩ else noVl)
 else some ⟨list,0,[]⟩
mutual
def execB (ap:Ap):Bd→VEnv→List Tr→Option (VEnv × List Tr)
 | .mk tn list op num name args thn els,vals,calls=>
   if op=83 then (if (vals (at' args 0)).n≠0 then execBs ap thn vals calls else execBs ap els vals calls)
   else if op=85 then (match calls with|[]=>none|t :: r=>some (vals.put tn t.res,r))
   else (resultB ap op num list args vals).map fun v=>(vals.put tn v,calls)
def execBs (ap:Ap):List Bd→VEnv→List Tr→Option (VEnv × List Tr)
 | [],vals,calls=>some (vals,calls)
 | b :: r,vals,calls=>(execB ap b vals calls).bind fun x=>execBs ap r x.1 x.2
end
theorem execB_eq (ap:Ap) (tn:ByteArray) (list:Bool) (op num:Int) (name:ByteArray) (args:List ByteArray) (thn els:List Bd) (vals:VEnv) (calls:List Tr):execB ap (.mk tn list op num name args thn els) vals calls =
 if op=83 then (if (vals (at' args 0)).n≠0 then execBs ap thn vals calls else execBs ap els vals calls)
 else if op=85 then (match calls with|[]=>none|t :: r=>some (vals.put tn t.res,r))
 else (resultB ap op num list args vals).map fun v=>(vals.put tn v,calls):=by
 conv=>lhs;unfold execB
theorem exec_append (ap:Ap):∀ (l m:List Bd) (vals:VEnv) (calls:List Tr),execBs ap (l ++ m) vals calls=(execBs ap l vals calls).bind fun x=>execBs ap m x.1 x.2
 | [],m,vals,calls=>by rw [List.nil_append,execBs];rfl
 | b :: l,m,vals,calls=>by
   rw [List.cons_append,execBs,execBs]
   cases h:execB ap b vals calls with
   | none=>rfl
   | some x=>simp only [Option.bind_some];exact exec_append ap l m x.1 x.2
theorem exec_one (ap:Ap) (b:Bd) (vals:VEnv) (calls:List Tr):execBs ap [b] vals calls=execB ap b vals calls:=by
 rw [execBs]
 cases h:execB ap b vals calls with
 | none=>rfl
 | some x=>simp only [Option.bind_some];rw [execBs]
def SameV (b:Bool) (v u:Vl):Prop:=v.list=b∧(if b then u.l=v.l else u.n=v.n)
theorem SameV.n {v u:Vl} (h:SameV false v u):u.n=v.n:=h.2
theorem SameV.l {v u:Vl} (h:SameV true v u):u.l=v.l:=h.2
theorem SameV.refl (v:Vl):SameV v.list v v:=⟨rfl,by split <;> rfl⟩
theorem SameV.of {b:Bool} {v:Vl} (h:v.list=b):SameV b v v:=by subst h;exact .refl v
theorem clean_same (v:Vl):SameV v.list v (cleanV v):=by
 unfold cleanV
 cases h:v.list <;> exact ⟨h,by simp⟩
theorem clean_list (v:Vl):(cleanV v).list=v.list:=by unfold cleanV;cases h:v.list <;> rfl
def OldT (N:Nat) (s:ByteArray):Prop:=∀ i,N≤i→s≠tname i
theorem OldT.mono {N M:Nat} {s:ByteArray} (h:OldT N s) (hm:N≤M):OldT M s:=fun i hi=>h i (by omega)
theorem old_t {i N:Nat} (h:i < N):OldT N (tname i):=fun j hj e=>by have:=tname_inj e;omega
theorem old_name {s:ByteArray} (h:nameB s=true) (N:Nat):OldT N s:=by
 intro i hi e
 subst e
 unfold nameB at h
 simp only [Bool.and_eq_true] at h
 have hl:=h.2.2.2.1
 unfold lowerB at hl
 have hne:=dig_ne i
 have hr:=dig_range i
 cases hd:Lib.decDigits i with
 | nil=>exact hne hd
 | cons c r=>
   have h2:=hr c (by rw [hd];exact List.mem_cons_self ..)
   have h3:=List.all_eq_true.1 hl c (by simp [tname,hd])
   simp [UInt8.le_iff_toNat_le] at h3
   omega
def AgreeV (N:Nat) (vis:Vis) (env:Env) (se:VEnv) (vals:VEnv):Prop:=∀ s b,vis s=some b→∃ p,env s=some p∧p.list=b∧OldT N p.name∧SameV b (se s) (vals p.name)
theorem AgreeV.keep {N:Nat} {vis:Vis} {env:Env} {se vals vals':VEnv} (h:AgreeV N vis env se vals) (hv:∀ s,OldT N s→vals' s=vals s) {M:Nat} (hm:N≤M):AgreeV M vis env se vals':=fun s b hs=>by
 obtain ⟨p,h1,h2,h3,h4⟩:=h s b hs
 exact ⟨p,h1,h2,h3.mono hm,by rw [hv _ h3];exact h4⟩
theorem AgreeV.put {N:Nat} {vis:Vis} {env:Env} {se vals:VEnv} (h:AgreeV N vis env se vals) (s:ByteArray) (p:Par) (v:Vl) (hp:OldT N p.name) (hv:SameV p.list v (vals p.name)):AgreeV N (vis.put s p.list) (env.put s p) (se.put s v) vals:=by
 intro y b hy
 by_cases e:y=s
 · simp only [Vis.put,if_pos e,Option.some.injEq] at hy
   subst hy
   exact ⟨p,by simp [Env.put,e],rfl,hp,by simp only [VEnv.put,if_pos e];exact hv⟩
 · simp only [Vis.put,if_neg e] at hy
   obtain ⟨q,h1,h2,h3,h4⟩:=h y b hy
   exact ⟨q,by simp only [Env.put,if_neg e];exact h1,h2,h3,by simp only [VEnv.put,if_neg e];exact h4⟩
end Go.Proofs.YtjhimhlebbamoaaDoor
/- Parameters of valid functions:no program in sight. -/
namespace Go.Proofs.YtjhimhlebbamoaaDoor
theorem agree_pars (l:List Par) (h:∀ p ∈ l,nameB p.name=true):Agree (parsV l) (parsEnv l):=by
 have key:∀ (l:List Par) (v:Vis) (e:Env),(∀ p ∈ l,nameB p.name=true)→Agree v e→Agree (l.foldl (fun v p=>v.put p.name p.list) v) (l.foldl (fun v p=>v.put p.name p) e):=by
  intro l
  induction l with
  | nil=>intro v e _ ha;exact ha
  | cons p r ih=>intro v e hp ha;exact ih _ _ (fun q hq=>hp q (List.mem_cons_of_mem _ hq)) (ha.put _ _ (.inl (hp p (List.mem_cons_self ..))))
 exact key l _ _ h (fun s=>rfl)
theorem pars_names {l:List Par} (h:parsE l=0):∀ p ∈ l,nameB p.name=true:=by
 unfold parsE at h
 by_cases h8:8 < l.length
 · rw [if_pos h8] at h;omega
 · rw [if_neg h8] at h
   by_cases ha:(l.all fun p=>nameB p.name)=true
   · intro p hp
     exact List.all_eq_true.1 ha p hp
   · rw [if_neg ha] at h;omega
end Go.Proofs.YtjhimhlebbamoaaDoor
/- The normal form computes what the function computes,with the same calls:no program in sight. -/
namespace Go.Proofs.YtjhimhlebbamoaaDoor
mutual
def TrOk (ap:Ap) (lib:List Fn):Tr→Prop
 | .mk f args res calls=>(0≤f∧f.toNat < lib.length∧args.length=(fnAt lib f).params.length∧∃ vals',execBs ap (normF lib (fnAt lib f)).body (bindPars (fnAt lib f).params args) calls=some (vals',[]))∧TrOks ap lib calls
def TrOks (ap:Ap) (lib:List Fn):List Tr→Prop
 | []=>True
 | t :: r=>TrOk ap lib t∧TrOks ap lib r
end
theorem TrOks.nil (ap:Ap) (lib:List Fn):TrOks ap lib []:=by rw [TrOks];trivial
theorem TrOks.append {ap:Ap} {lib:List Fn}:∀ {l m:List Tr},TrOks ap lib l→TrOks ap lib m→TrOks ap lib (l ++ m)
 | [],_,_,h=>h
 | t :: l,m,h,h'=>by
   rw [TrOks] at h
   rw [List.cons_append,TrOks]
   exact ⟨h.1,h.2.append h'⟩
theorem TrOks.one {ap:Ap} {lib:List Fn} {t:Tr} (h:TrOk ap lib t):TrOks ap lib [t]:=by rw [TrOks];exact ⟨h,.nil _ _⟩
theorem TrOks.mem {ap:Ap} {lib:List Fn}:∀ {l:List Tr},TrOks ap lib l→∀ t ∈ l,TrOk ap lib t
 | [],_,t,ht=>by simp at ht
 | c :: l,h,t,ht=>by
   rw [TrOks] at h
   rcases List.mem_cons.1 ht with rfl|ht
   · exact h.1
   · exact h.2.mem t ht
def XSem (ap:Ap) (lib:List Fn) (d:Nat):Prop:=∀ (n:Nd) (vis:Vis) (env:Env) (ts:List Par) (se vals:VEnv) (fuel active:Int),formedN n=true→(checkN lib n vis).2=0→Agree vis env→TNamed ts→ts.length+2 * sizeN n≤10000→AgreeV ts.length vis env se vals→
 (evalN ap lib d n se fuel active).err=0→∀ rest,∃ vals',execBs ap (exprN lib n env ts).bs vals ((evalN ap lib d n se fuel active).calls ++ rest)=some (vals',rest)∧SameV (checkN lib n vis).1 (evalN ap lib d n se fuel active).val (vals' (exprN lib n env ts).par.name)∧
   (∀ s,OldT ts.length s→vals' s=vals s)∧OldT (exprN lib n env ts).ts.length (exprN lib n env ts).par.name∧TrOks ap lib (evalN ap lib d n se fuel active).calls
theorem exec_var (ap:Ap) (tn x:ByteArray) (b:Bool) (vals:VEnv) (calls:List Tr):execB ap (varB tn b x) vals calls=some (vals.put tn (vals x),calls):=by
 rw [varB,execB_eq];simp [resultB,at']
theorem put_old {vals:VEnv} {i N:Nat} {v:Vl} (h:N≤i) {s:ByteArray} (hs:OldT N s):(vals.put (tname i) v) s=vals s:=by simp only [VEnv.put,if_neg (hs i h)]
theorem put_same {vals:VEnv} {s:ByteArray} {v:Vl}:(vals.put s v) s=v:=by simp [VEnv.put]
theorem checkL_types {lib:List Fn} {name:ByteArray} {vis:Vis}:∀ (l:List Nd) (j:Nat) (types:List Bool),(checkL lib false name l j types vis).2=0→(checkL lib false name l j types vis).1=types ++ l.map (fun n=>(checkN lib n vis).1)
 | [],j,types,h=>by rw [checkL];simp
 | n :: r,j,types,h=>by
   obtain ⟨c1,c2,c3⟩:=checkL_cons h
   rw [c3,checkL_types r _ _ c2]
   simp
theorem args_sem (ap:Ap) (lib:List Fn) (hl:∀ i,i < lib.length→(at' lib i).params.length≤8) (d:Nat) (H:XSem ap lib d) (call:Bool) (name:ByteArray):∀ (l:List Nd) (j:Nat) (types:List Bool) (vis:Vis) (env:Env) (ts:List Par) (se vals:VEnv) (fuel active:Int),formedL l=true→(checkL lib false name l j types vis).2=0→Agree vis env→TNamed ts→ts.length+2 * sizeL l≤10000→AgreeV ts.length vis env se vals→
 (evalL (fun n f=>evalN ap lib d n se f active) l fuel).err=0→(evalL (fun n f=>evalN ap lib d n se f active) l fuel).vals.length=l.length∧∀ rest,∃ vals',execBs ap (argsN lib call l env ts).bs vals ((evalL (fun n f=>evalN ap lib d n se f active) l fuel).calls ++ rest)=some (vals',rest)∧
   (∀ i,i < l.length→SameV (checkN lib (at' l i) vis).1 (at' (evalL (fun n f=>evalN ap lib d n se f active) l fuel).vals i) (vals' (at' (argsN lib call l env ts).args i))∧OldT (argsN lib call l env ts).ts.length (at' (argsN lib call l env ts).args i))∧
   (∀ s,OldT ts.length s→vals' s=vals s)∧TrOks ap lib (evalL (fun n f=>evalN ap lib d n se f active) l fuel).calls
 | [],j,types,vis,env,ts,se,vals,fuel,active,hf,hc,hag,hts,hsz,hav,he=>by
   refine ⟨rfl,fun rest=>⟨vals,?_,fun i hi=>absurd hi (by simp),fun s _=>rfl,TrOks.nil _ _⟩⟩
   rw [argsN,execBs];rfl
 | n :: r,j,types,vis,env,ts,se,vals,fuel,active,hf,hc,hag,hts,hsz,hav,he=>by
   rw [formedL,Bool.and_eq_true] at hf
   obtain ⟨c1,c2,_⟩:=checkL_cons hc
   simp only [Bool.false_eq_true,false_and,if_false] at c1 c2
   rw [sizeL] at hsz
   rw [evalL] at he ⊢
   simp only [] at he ⊢
   have gn:=expr_good lib hl n vis env ts hf.1 c1 hag hts (by omega)
   have lenn:=expr_len lib n env ts
   by_cases hx:(evalN ap lib d n se fuel active).err=0
   · rw [if_neg (by simpa using hx)] at he ⊢
     have hn:=H n vis env ts se vals fuel active hf.1 c1 hag hts (by omega) hav hx
     rw [argsN]
     simp only [gn.env]
     generalize hE:evalN ap lib d n se fuel active=E at *
     generalize hX:exprN lib n env ts=X at *
     simp only [] at he ⊢
     by_cases hcall:(call && namesN (sizeN n) n)=true
     · simp only [if_pos hcall]
       have hts2:=gn.ts.snoc X.par.list
       have hlen2:(X.ts ++ [(⟨tname X.ts.length,X.par.list⟩:Par)]).length=X.ts.length+1:=by simp
       have ih:=fun vals2 h2=>args_sem ap lib hl d H call name r (j+1) _ vis env (X.ts ++ [⟨tname X.ts.length,X.par.list⟩]) se vals2 E.fuel active hf.2 c2 hag hts2 (by rw [hlen2];omega) h2 he
       have hlenv:(evalL (fun n f=>evalN ap lib d n se f active) r E.fuel).vals.length=r.length:=by
        obtain ⟨v1,_,_,h3,_⟩:=hn []
        exact (ih (v1.put (tname X.ts.length) (v1 X.par.name)) ((hav.keep h3 (Nat.le_refl _)).keep (fun s hs=>put_old (by omega) hs) (by rw [hlen2];omega))).1
       refine ⟨by simp only [List.length_cons,hlenv],fun rest=>?_⟩
       obtain ⟨v1,h1,h2,h3,h4,h5⟩:=hn ((evalL (fun n f=>evalN ap lib d n se f active) r E.fuel).calls ++ rest)
       obtain ⟨v2,k1,k2,k3,k4⟩:=(ih (v1.put (tname X.ts.length) (v1 X.par.name)) ((hav.keep h3 (Nat.le_refl _)).keep (fun s hs=>put_old (by omega) hs) (by rw [hlen2];omega))).2 rest
       rw [hlen2] at k3
       refine ⟨v2,?_,fun i hi=>?_,fun s hs=>?_,h5.append k4⟩
       · rw [List.append_assoc,exec_append,h1]
         simp only [Option.bind_some]
         rw [execBs,exec_var]
         simp only [Option.bind_some]
         exact k1
       · cases i with
         | zero=>
           have leny:=args_len lib call r env (X.ts ++ [⟨tname X.ts.length,X.par.list⟩])
           rw [hlen2] at leny
           show SameV _ E.val (v2 (tname X.ts.length))∧OldT _ (tname X.ts.length)
           rw [k3 _ (old_t (by omega)),put_same]
           exact ⟨h2,old_t (by omega)⟩
         | succ i=>exact k2 i (by simpa using hi)
       · rw [k3 _ (hs.mono (by omega)),put_old (by omega) hs,h3 s hs]
     · simp only [if_neg hcall]
       have ih:=fun vals2 h2=>args_sem ap lib hl d H call name r (j+1) _ vis env X.ts se vals2 E.fuel active hf.2 c2 hag gn.ts (by omega) h2 he
       have hlenv:(evalL (fun n f=>evalN ap lib d n se f active) r E.fuel).vals.length=r.length:=by
        obtain ⟨v1,_,_,h3,_⟩:=hn []
        exact (ih v1 (hav.keep h3 (by omega))).1
       refine ⟨by simp only [List.length_cons,hlenv],fun rest=>?_⟩
       obtain ⟨v1,h1,h2,h3,h4,h5⟩:=hn ((evalL (fun n f=>evalN ap lib d n se f active) r E.fuel).calls ++ rest)
       obtain ⟨v2,k1,k2,k3,k4⟩:=(ih v1 (hav.keep h3 (by omega))).2 rest
       refine ⟨v2,?_,fun i hi=>?_,fun s hs=>?_,h5.append k4⟩
       · rw [List.append_assoc,exec_append,h1]
         simp only [Option.bind_some]
         exact k1
       · cases i with
         | zero=>
           have leny:=args_len lib call r env X.ts
           show SameV _ E.val (v2 X.par.name)∧OldT _ X.par.name
           rw [k3 _ h4]
           exact ⟨h2,h4.mono (by omega)⟩
         | succ i=>exact k2 i (by simpa using hi)
       · rw [k3 _ (hs.mono (by omega)),h3 s hs]
   · rw [if_pos hx] at he;exact absurd he hx
theorem zip_env (lib:List Fn):∀ (ps:List Par) (vs:List Vl),(∀ p ∈ ps,nameB p.name=true)→vs.length=ps.length→(∀ i,i < ps.length→(at' vs i).list=(at' ps i).list)→
 AgreeV 0 (parsV ps) (parsEnv ps) (bindPars ps vs) (bindPars ps (vs.map cleanV)):=by
 have key:∀ (ps:List Par) (vs:List Vl) (vis:Vis) (env:Env) (e e':VEnv),(∀ p ∈ ps,nameB p.name=true)→vs.length=ps.length→(∀ i,i < ps.length→(at' vs i).list=(at' ps i).list)→AgreeV 0 vis env e e'→(∀ s p,env s=some p→p.name=s)→(∀ s b,vis s=some b→∃ p,env s=some p∧p.list=b)→
  (∀ s b,vis s=some b→OldT 0 s)→
  AgreeV 0 (ps.foldl (fun v p=>v.put p.name p.list) vis) (ps.foldl (fun v p=>v.put p.name p) env) ((ps.zip vs).foldl (fun e p=>e.put p.1.name p.2) e) ((ps.zip (vs.map cleanV)).foldl (fun e p=>e.put p.1.name p.2) e'):=by
  intro ps
  induction ps with
  | nil=>intro vs vis env e e' _ _ _ h _ _ _;exact h
  | cons p r ih=>
    intro vs vis env e e' hn hl ht ha h1 h2 h3
    match vs,hl with
    | v :: vr,hl=>
      simp only [List.foldl_cons,List.zip_cons_cons,List.map_cons]
      have hp:=hn p (List.mem_cons_self ..)
      have hv:v.list=p.list:=ht 0 (by simp)
      refine ih vr _ _ _ _ (fun q hq=>hn q (List.mem_cons_of_mem _ hq)) (by simpa using hl) (fun i hi=>ht (i+1) (by simpa using hi)) ?_ ?_ ?_ ?_
      · intro y b hy
        by_cases e0:y=p.name
        · simp only [Vis.put,if_pos e0,Option.some.injEq] at hy
          subst hy
          refine ⟨p,by simp [Env.put,e0],rfl,old_name hp 0,?_⟩
          simp only [VEnv.put,if_pos e0,if_true]
          rw [← hv];exact clean_same v
        · simp only [Vis.put,if_neg e0] at hy
          obtain ⟨q,g1,g2,g3,g4⟩:=ha y b hy
          have hq:=h1 y q g1
          refine ⟨q,by simp only [Env.put,if_neg e0];exact g1,g2,g3,?_⟩
          rw [hq] at g4 ⊢
          simp only [VEnv.put,if_neg e0];exact g4
      · intro s q hs
        by_cases e0:s=p.name
        · simp only [Env.put,if_pos e0,Option.some.injEq] at hs;subst hs;exact e0.symm
        · simp only [Env.put,if_neg e0] at hs;exact h1 s q hs
      · intro s b hs
        by_cases e0:s=p.name
        · simp only [Vis.put,if_pos e0,Option.some.injEq] at hs;exact ⟨p,by simp [Env.put,e0],hs⟩
        · simp only [Vis.put,if_neg e0] at hs
          obtain ⟨q,g1,g2⟩:=h2 s b hs
          exact ⟨q,by simp only [Env.put,if_neg e0];exact g1,g2⟩
      · intro s b hs
        by_cases e0:s=p.name
        · subst e0;exact old_name hp 0
        · simp only [Vis.put,if_neg e0] at hs;exact h3 s b hs
 intro ps vs h1 h2 h3
 exact key ps vs _ _ _ _ h1 h2 h3 (fun s b h=>by cases h) (fun s p h=>by cases h) (fun s b h=>by cases h) (fun s b h=>by cases h)
end Go.Proofs.YtjhimhlebbamoaaDoor
/- The normal form computes what the function computes:all cases. No program in sight. -/
namespace Go.Proofs.YtjhimhlebbamoaaDoor
theorem findFrom_lt (name:ByteArray):∀ (l:List Fn) (j:Int),findFrom name l j= -1∨j≤findFrom name l j∧findFrom name l j < j+l.length
 | [],j=>.inl rfl
 | f :: r,j=>by
   rw [findFrom]
   split
   · right;simp;omega
   · rcases findFrom_lt name r (j+1) with h|h
     · exact .inl h
     · right;simp;omega
theorem findF_lt {lib:List Fn} {name:ByteArray} (h:¬ findF lib name < 0):0≤findF lib name∧(findF lib name).toNat < lib.length:=by
 unfold findF at h ⊢
 rcases findFrom_lt name lib 0 with h'|h'
 · omega
 · omega
theorem exec_op {ap:Ap} {tn:ByteArray} {list:Bool} {op num:Int} {name:ByteArray} {args:List ByteArray} {vals:VEnv} {calls:List Tr} {v:Vl} (h83:op≠83) (h85:op≠85) (h:resultB ap op num list args vals=some v):execBs ap [.mk tn list op num name args [] []] vals calls=some (vals.put tn v,calls):=by
 rw [exec_one,execB_eq,if_neg h83,if_neg h85,h];rfl
theorem sem_call {ap:Ap} {lib:List Fn} (hv:(validE lib).2=0) {d:Nat} (H:XSem ap lib d) {f:Int} (hf0:0≤f) (hf:f.toNat < lib.length) {vals:List Vl} (hl:vals.length=(fnAt lib f).params.length) (ht:∀ i,i < vals.length→(at' vals i).list=(at' (fnAt lib f).params i).list) {fuel active:Int}
 (he:(evalN ap lib d (fnAt lib f).body (bindPars (fnAt lib f).params vals) fuel active).err=0):
 (evalN ap lib d (fnAt lib f).body (bindPars (fnAt lib f).params vals) fuel active).val.list=(fnAt lib f).list∧TrOk ap lib (.mk f (vals.map cleanV) (cleanV (evalN ap lib d (fnAt lib f).body (bindPars (fnAt lib f).params vals) fuel active).val) (evalN ap lib d (fnAt lib f).body (bindPars (fnAt lib f).params vals) fuel active).calls):=by
 have hok:=valid_ok hv hf
 have hp:=pars_names hok.pars
 have hsz:=hok.size
 obtain ⟨v',h1,h2,h3,h4,h5⟩:=H (fnAt lib f).body (parsV (fnAt lib f).params) (parsEnv (fnAt lib f).params) [] _ (bindPars (fnAt lib f).params (vals.map cleanV)) fuel active hok.form hok.check (agree_pars _ hp) (fun j hj=>by simp at hj) (by unfold fnAt;simp;omega) (zip_env lib _ _ hp hl (fun i hi=>ht i (by omega))) he []
 have hlist:=hok.list
 refine ⟨h2.1.trans hlist,?_⟩
 rw [TrOk]
 exact ⟨⟨hf0,hf,by simpa using hl,v',by rw [List.append_nil] at h1;exact h1⟩,h5⟩
theorem sem_ok (ap:Ap) (lib:List Fn) (hv:(validE lib).2=0):∀ d,XSem ap lib d:=by
 have hl8:∀ i,i < lib.length→(at' lib i).params.length≤8:=fun j hj=>pars_le (valid_ok hv hj).pars
 intro d
 induction d with
 | zero=>intro n vis env ts se vals fuel active hf hc hag hts hsz hav he;rw [evalN] at he;exact absurd he (by simp)
 | succ d H=>
   intro n vis env ts se vals fuel active hf hc hag hts hsz hav he rest
   obtain ⟨k,num,name,kids⟩:=n
   rw [formedN,Bool.and_eq_true] at hf
   obtain ⟨hf1,hf2⟩:=hf
   rw [evalN] at he ⊢
   by_cases hfu:fuel≤0
   · rw [if_pos hfu] at he;exact absurd he (by simp)
   rw [if_neg hfu] at he ⊢
   by_cases h81:k=81
   · subst h81
     rw [if_neg (by omega),if_pos rfl]
     have hkl:kids.length=0:=by simp [formB] at hf1;simp [hf1.2]
     obtain ⟨b,hvb,hty⟩:=check_var hc hkl
     obtain ⟨p,g1,g2,g3,g4⟩:=hav name b hvb
     rw [exprN_var,hty,g1]
     exact ⟨vals,by rw [execBs];rfl,g4,fun s _=>rfl,g3,TrOks.nil _ _⟩
   obtain ⟨hr,hcl,hres,hty⟩:=check_split h81 hc
   obtain ⟨r1,r2⟩:=result_ty hres
   by_cases h84:k=84
   · subst h84
     rw [if_neg (by omega),if_neg (by omega),if_neg (by omega),if_pos rfl] at he ⊢
     have hk2:kids.length=2:=by simp [formB] at hf1;exact hf1.2.2
     match kids,hk2 with
     | [a,b],_=>
       rw [hty,r2]
       simp only [decide_true] at hcl r1 ⊢
       obtain ⟨c1,c2,c3⟩:=checkL_cons hcl
       rw [c3]
       obtain ⟨d1,d2,d3⟩:=checkL_cons c2
       rw [d3]
       simp only [true_and,Nat.zero_ne_one,if_false,List.nil_append,Nat.zero_add,if_true,List.getD_cons_zero] at c1 d1 ⊢
       rw [formedL,formedL,Bool.and_eq_true,Bool.and_eq_true] at hf2
       rw [sizeN,sizeL,sizeL,sizeL] at hsz
       simp only [show at' [a,b] 0=a from rfl,show at' [a,b] 1=b from rfl] at he ⊢
       have ga:=expr_good lib hl8 a vis env ts hf2.1 c1 hag hts (by omega)
       have lena:=expr_len lib a env ts
       by_cases hea:(evalN ap lib d a se (fuel - 1) active).err=0
       · rw [if_neg (by simpa using hea)] at he ⊢
         have hA:=H a vis env ts se vals (fuel - 1) active hf2.1 c1 hag hts (by omega) hav hea
         have hag2:Agree (vis.put name (checkN lib a vis).1) (env.put name (exprN lib a env ts).par):=by
          rw [← ga.list];exact hag.put name _ ga.name
         have lenb:=expr_len lib b (env.put name (exprN lib a env ts).par) (exprN lib a env ts).ts
         rw [exprN_let]
         simp only [ga.env]
         have gl:=ga.list
         have gts:=ga.ts
         generalize hX:exprN lib a env ts=X at *
         generalize hEa:evalN ap lib d a se (fuel - 1) active=Ea at *
         simp only [] at he ⊢
         obtain ⟨v1,a1,a2,a3,a4,a5⟩:=hA ((evalN ap lib d b (se.put name Ea.val) Ea.fuel active).calls ++ rest)
         have hav2:AgreeV X.ts.length (vis.put name (checkN lib a vis).1) (env.put name X.par) (se.put name Ea.val) v1:=by
          rw [← gl]
          refine (hav.keep a3 (by omega)).put name X.par Ea.val a4 ?_
          rw [gl];exact a2
         obtain ⟨v2,b1,b2,b3,b4,b5⟩:=H b _ _ X.ts _ v1 Ea.fuel active hf2.2.1 d1 hag2 gts (by omega) hav2 he rest
         refine ⟨v2,?_,?_,fun s hs=>by rw [b3 _ (hs.mono (by omega)),a3 s hs],b4,a5.append b5⟩
         · rw [List.append_assoc,exec_append,a1]
           exact b1
         · have:(wantT lib 84 name (checkL lib true name ([]:List Nd) (1+1) [(checkN lib a vis).1,(checkN lib b (vis.put name (checkN lib a vis).1)).1] vis).1).2=(checkN lib b (vis.put name (checkN lib a vis).1)).1:=by
            simp [wantT,checkL]
           first|(rw [this];exact b2)|(simp [wantT,checkL];exact b2)
       · rw [if_pos hea] at he;exact absurd he hea
   have hd:decide (k=84)=false:=by simp [h84]
   rw [hd] at hcl r1 r2 hty hres
   have htl:=checkL_types kids 0 [] hcl
   rw [List.nil_append] at htl
   by_cases h83:k=83
   · subst h83
     rw [if_neg (by omega),if_neg (by omega),if_pos rfl] at he ⊢
     have hk3:kids.length=3:=by rw [formB] at hf1;simp at hf1;exact hf1.2
     match kids,hk3 with
     | [c,a,b],_=>
       obtain ⟨c1,c2,c3⟩:=checkL_cons hcl
       obtain ⟨d1,d2,d3⟩:=checkL_cons c2
       obtain ⟨e1,e2,e3⟩:=checkL_cons d2
       simp only [Bool.false_eq_true,false_and,if_false,List.nil_append,Nat.zero_add,List.cons_append] at c1 d1 e1
       rw [htl] at r1
       have r1':(checkN lib c vis).1=false∧(checkN lib b vis).1=(checkN lib a vis).1:=by
        simp [wantT] at r1;exact r1
       have hty':(checkN lib (.mk 83 num name [c,a,b]) vis).1=(checkN lib a vis).1:=by
        rw [hty,r2,htl];simp [wantT]
       rw [hty']
       rw [formedL,formedL,formedL,Bool.and_eq_true,Bool.and_eq_true,Bool.and_eq_true] at hf2
       rw [sizeN,sizeL,sizeL,sizeL,sizeL] at hsz
       simp only [show at' [c,a,b] 0=c from rfl,show at' [c,a,b] 1=a from rfl,show at' [c,a,b] 2=b from rfl] at he ⊢
       have gc:=expr_good lib hl8 c vis env ts hf2.1 c1 hag hts (by omega)
       have lenc:=expr_len lib c env ts
       by_cases hec:(evalN ap lib d c se (fuel - 1) active).err=0
       · rw [if_neg (by simpa using hec)] at he ⊢
         have hC:=H c vis env ts se vals (fuel - 1) active hf2.1 c1 hag hts (by omega) hav hec
         have ga:=expr_good lib hl8 a vis env ((exprN lib c env ts).ts ++ [⟨tname (exprN lib c env ts).ts.length,false⟩]) hf2.2.1 d1 hag (gc.ts.snoc false) (by simp only [List.length_append,List.length_singleton];omega)
         have lena:=expr_len lib a env ((exprN lib c env ts).ts ++ [⟨tname (exprN lib c env ts).ts.length,false⟩])
         simp only [List.length_append,List.length_singleton] at lena
         have gb:=expr_good lib hl8 b vis env (setTy (exprN lib a env ((exprN lib c env ts).ts ++ [⟨tname (exprN lib c env ts).ts.length,false⟩])).ts (exprN lib c env ts).ts.length (exprN lib a env ((exprN lib c env ts).ts ++ [⟨tname (exprN lib c env ts).ts.length,false⟩])).par.list) hf2.2.2.1 e1 hag (ga.ts.set _ _) (by rw [setTy_len];omega)
         have lenb:=expr_len lib b env (setTy (exprN lib a env ((exprN lib c env ts).ts ++ [⟨tname (exprN lib c env ts).ts.length,false⟩])).ts (exprN lib c env ts).ts.length (exprN lib a env ((exprN lib c env ts).ts ++ [⟨tname (exprN lib c env ts).ts.length,false⟩])).par.list)
         rw [setTy_len] at lenb
         have hTs:=ga.ts.set (exprN lib c env ts).ts.length (exprN lib a env ((exprN lib c env ts).ts ++ [⟨tname (exprN lib c env ts).ts.length,false⟩])).par.list
         have hAs:=fun v1 f hav1 h=>H a vis env ((exprN lib c env ts).ts ++ [⟨tname (exprN lib c env ts).ts.length,false⟩]) se v1 f active hf2.2.1 d1 hag (gc.ts.snoc false) (by simp only [List.length_append,List.length_singleton];omega) hav1 h
         have hBs:=fun v1 f hav1 h=>H b vis env (setTy (exprN lib a env ((exprN lib c env ts).ts ++ [⟨tname (exprN lib c env ts).ts.length,false⟩])).ts (exprN lib c env ts).ts.length (exprN lib a env ((exprN lib c env ts).ts ++ [⟨tname (exprN lib c env ts).ts.length,false⟩])).par.list) se v1 f active hf2.2.2.1 e1 hag hTs (by rw [setTy_len];omega) hav1 h
         simp only [List.length_append,List.length_singleton,setTy_len] at hAs hBs
         rw [exprN_if]
         simp only [gc.env,ga.env]
         have gat:=ga.ts
         have gbt:=gb.ts
         generalize hX:exprN lib c env ts=X at *
         generalize hY:exprN lib a env (X.ts ++ [⟨tname X.ts.length,false⟩])=Y at *
         generalize hT:setTy Y.ts X.ts.length Y.par.list=T1 at *
         generalize hZ:exprN lib b env T1=Z at *
         generalize hEc:evalN ap lib d c se (fuel - 1) active=Ec at *
         have n1:(at' T1 X.ts.length).name=tname X.ts.length:=hTs _ (by rw [← hT,setTy_len];omega)
         have n2:(at' (setTy Z.ts X.ts.length Z.par.list) X.ts.length).name=tname X.ts.length:=(gbt.set X.ts.length Z.par.list) _ (by rw [setTy_len];omega)
         simp only [] at he ⊢
         simp only [n1,n2,setTy_len]
         by_cases hz:Ec.val.n≠0
         · rw [if_pos hz] at he ⊢
           obtain ⟨v1,a1,a2,a3,a4,a5⟩:=hC ((evalN ap lib d a se Ec.fuel active).calls ++ rest)
           rw [r1'.1] at a2
           obtain ⟨v2,b1,b2,b3,b4,b5⟩:=hAs v1 Ec.fuel (hav.keep a3 (by omega)) he rest
           refine ⟨v2.put (tname X.ts.length) (v2 Y.par.name),?_,?_,fun s hs=>?_,old_t (by omega),a5.append b5⟩
           · rw [List.append_assoc,exec_append,a1]
             simp only [Option.bind_some]
             rw [exec_one,execB_eq,if_pos rfl,show at' [X.par.name] 0=X.par.name from rfl,if_pos (by rw [a2.n];exact hz),exec_append,b1]
             simp only [Option.bind_some]
             rw [exec_one,exec_var]
           · rw [put_same];exact b2
           · rw [put_old (by omega) hs,b3 _ (hs.mono (by omega)),a3 s hs]
         · rw [if_neg hz] at he ⊢
           obtain ⟨v1,a1,a2,a3,a4,a5⟩:=hC ((evalN ap lib d b se Ec.fuel active).calls ++ rest)
           rw [r1'.1] at a2
           have hYl:Y.ts.length=T1.length:=by rw [← hT,setTy_len]
           obtain ⟨v2,b1,b2,b3,b4,b5⟩:=hBs v1 Ec.fuel (hav.keep a3 (by omega)) he rest
           refine ⟨v2.put (tname X.ts.length) (v2 Z.par.name),?_,?_,fun s hs=>?_,old_t (by omega),a5.append b5⟩
           · rw [List.append_assoc,exec_append,a1]
             simp only [Option.bind_some]
             rw [exec_one,execB_eq,if_pos rfl,show at' [X.par.name] 0=X.par.name from rfl,if_neg (by rw [a2.n];exact hz),exec_append,b1]
             simp only [Option.bind_some]
             rw [exec_one,exec_var]
           · rw [put_same,← r1'.2];exact b2
           · rw [put_old (by omega) hs,b3 _ (hs.mono (by omega)),a3 s hs]
       · rw [if_pos hec] at he;exact absurd he hec
   rw [hty,r2]
   by_cases h80:k=80
   · subst h80
     rw [if_pos rfl] at he ⊢
     have hkl:kids.length=0:=by simp [formB] at hf1;simp [hf1.2]
     obtain rfl:kids=[]:=List.eq_nil_of_length_eq_zero hkl
     rw [exprN_op lib num name [] env ts (by omega) (by omega) (by omega)]
     simp only [argsN]
     refine ⟨vals.put (tname ts.length) ⟨false,num,[]⟩,?_,?_,fun s hs=>put_old (by omega) hs,old_t (by simp),TrOks.nil _ _⟩
     · exact exec_op (by omega) (by omega) rfl
     · rw [put_same];exact ⟨rfl,rfl⟩
   rw [if_neg h80,if_neg h81,if_neg h83,if_neg h84] at he ⊢
   simp only [] at he ⊢
   have gy:=args_good lib hl8 (decide (k=85)) name kids 0 [] vis env ts hf2 hcl hag hts (by rw [sizeN] at hsz;omega)
   have leny:=args_len lib (decide (k=85)) kids env ts
   have hY:=args_sem ap lib hl8 d H (decide (k=85)) name kids 0 [] vis env ts se vals (fuel - 1) active hf2 hcl hag hts (by rw [sizeN] at hsz;omega) hav
   rw [exprN_op lib num name kids env ts h81 h84 h83]
   generalize hYv:argsN lib (decide (k=85)) kids env ts=Y at *
   generalize hR:evalL (fun n f=>evalN ap lib d n se f active) kids (fuel - 1)=R at *
   by_cases hre:R.err=0
   · rw [if_neg (show ¬ R.err≠0 by simpa using hre)] at he ⊢
     obtain ⟨hlen,hY⟩:=hY hre
     by_cases h85:k=85
     · subst h85
       rw [if_neg (show ¬ (85:Int)≠85 by simp)] at he ⊢
       simp only [if_true]
       by_cases hact:30≤active
       · rw [if_pos hact] at he;exact absurd he (by simp)
       · rw [if_neg hact] at he ⊢
         have hfind:¬ findF lib name < 0:=by
          intro h0;simp [reachE,h0] at hr
         obtain ⟨f0,f1⟩:=findF_lt hfind
         have hkp:kids.length=(fnAt lib (findF lib name)).params.length:=by
          simp only [reachE] at hr
          rw [if_neg (show ¬ (85:Int)=81 by omega),if_neg (show ¬ (85:Int)=84 by omega),if_true,if_neg hfind] at hr
          by_cases hn:kids.length=(fnAt lib (findF lib name)).params.length
          · exact hn
          · rw [if_pos hn] at hr;omega
         by_cases hye:(evalN ap lib d (fnAt lib (findF lib name)).body (bindPars (fnAt lib (findF lib name)).params R.vals) R.fuel (active+1)).err=0
         · rw [if_neg (show ¬ (evalN ap lib d (fnAt lib (findF lib name)).body (bindPars (fnAt lib (findF lib name)).params R.vals) R.fuel (active+1)).err≠0 by simpa using hye)] at he ⊢
           simp only [] at he ⊢
           obtain ⟨v0,_,t2,_,_⟩:=hY []
           have hts':∀ i,i < R.vals.length→(at' R.vals i).list=(at' (fnAt lib (findF lib name)).params i).list:=fun i hi=>by
            have h1:=(t2 i (by omega)).1.1
            rw [h1]
            have h2:=r1
            rw [htl] at h2
            simp only [wantT] at h2
            rw [if_neg (show ¬ (85:Int)=82 by omega),if_neg (show ¬ (85:Int)=83 by omega),if_neg (show ¬ (85:Int)=84 by omega),if_true] at h2
            have h3:=congrArg (fun l=>l[i]?) h2
            simp only [List.getElem?_map] at h3
            rw [List.getElem?_eq_getElem (by omega),List.getElem?_eq_getElem (by omega)] at h3
            simp only [Option.map_some,Option.some.injEq] at h3
            rw [at_eq (by omega),at_eq (by omega)];exact h3
           obtain ⟨s1,s2⟩:=sem_call hv H f0 f1 (by omega) hts' hye
           obtain ⟨v1,k1,k2,k3,k4⟩:=hY ([.mk (findF lib name) (R.vals.map cleanV) (cleanV (evalN ap lib d (fnAt lib (findF lib name)).body (bindPars (fnAt lib (findF lib name)).params R.vals) R.fuel (active+1)).val) (evalN ap lib d (fnAt lib (findF lib name)).body (bindPars (fnAt lib (findF lib name)).params R.vals) R.fuel (active+1)).calls] ++ rest)
           refine ⟨v1.put (tname Y.ts.length) (cleanV (evalN ap lib d (fnAt lib (findF lib name)).body (bindPars (fnAt lib (findF lib name)).params R.vals) R.fuel (active+1)).val),?_,?_,fun s hs=>?_,old_t (by simp),k4.append (TrOks.one s2)⟩
           · rw [List.append_assoc,exec_append,k1]
             simp only [Option.bind_some]
             rw [exec_one,execB_eq,if_neg (by omega),if_pos rfl]
             rfl
           · rw [put_same]
             have:(wantT lib 85 name (checkL lib false name kids 0 [] vis).1).2=(fnAt lib (findF lib name)).list:=by simp [wantT]
             rw [this]
             exact SameV.of ((clean_list _).trans s1)
           · rw [put_old (by omega) hs,k3 s hs]
         · rw [if_pos hye] at he;exact absurd he hye
     · rw [if_pos h85] at he ⊢
       simp only [] at he ⊢
       simp only [if_neg h85]
       obtain ⟨v1,k1,k2,k3,k4⟩:=hY rest
       have key:∀ v:Vl,resultB ap k num (opList k) Y.args v1=some v→SameV (wantT lib k name (checkL lib false name kids 0 [] vis).1).2 (operateN ap k num R.vals).1 v→∃ vals',execBs ap (Y.bs ++ [.mk (tname Y.ts.length) (opList k) k num ByteArray.empty Y.args [] []]) vals (R.calls ++ rest)=some (vals',rest)∧SameV (wantT lib k name (checkL lib false name kids 0 [] vis).1).2 (operateN ap k num R.vals).1 (vals' (tname Y.ts.length))∧(∀ s,OldT ts.length s→vals' s=vals s)∧OldT (Y.ts ++ [(⟨tname Y.ts.length,opList k⟩:Par)]).length (tname Y.ts.length)∧TrOks ap lib R.calls:=by
        intro v h1 h2
        refine ⟨v1.put (tname Y.ts.length) v,?_,?_,fun s hs=>?_,old_t (by simp),k4⟩
        · rw [exec_append,k1]
          simp only [Option.bind_some]
          exact exec_op h83 h85 h1
        · rw [put_same];exact h2
        · rw [put_old (by omega) hs,k3 s hs]
       rw [htl] at r1
       rw [formB] at hf1
       simp only [if_neg h81,if_neg h84,if_neg h85,if_neg h83,if_neg h80] at hf1
       have ty:∀ i,i < kids.length→∀ b,(wantT lib k name (kids.map fun n=>(checkN lib n vis).1)).1[i]?=some b→SameV b (at' R.vals i) (v1 (at' Y.args i)):=fun i hi b hb=>by
        have h1:=(k2 i hi).1
        rw [← r1,List.getElem?_map,List.getElem?_eq_getElem hi] at hb
        simp only [Option.map_some,Option.some.injEq] at hb
        rw [at_eq hi,hb] at h1
        exact h1
       by_cases h82:k=82
       · subst h82
         rw [if_pos rfl] at hf1
         simp at hf1
         have hk2:kids.length=2:=hf1.2.2.2
         have t0:=(ty 0 (by omega) false rfl).n
         have t1:=(ty 1 (by omega) false rfl).n
         refine key ⟨false,(ap num (at' R.vals 0).n (at' R.vals 1).n).1,[]⟩ ?_ ⟨rfl,rfl⟩
         simp only [resultB]
         rw [if_neg (by omega),if_neg (by omega),if_true,t0,t1]
       · rw [if_neg h82] at hf1
         by_cases hnn:num≠0∨name.size≠0
         · rw [if_pos hnn] at hf1;simp at hf1
         · rw [if_neg hnn] at hf1
           by_cases h86:k=86
           · subst h86
             exact key ⟨true,0,[]⟩ rfl ⟨rfl,rfl⟩
           · rw [if_neg h86] at hf1
             by_cases h1:k=88∨k=89∨k=90
             · rw [if_pos h1] at hf1
               have hk1:kids.length=1:=by simpa using hf1
               rcases h1 with rfl|rfl|rfl
               · have t0:=(ty 0 (by omega) true rfl).l
                 by_cases hz:(at' R.vals 0).l.length=0
                 · simp [operateN,hz] at he
                 · refine key ⟨false,nth (at' R.vals 0).l 0,[]⟩ ?_ ?_
                   · simp [resultB,t0,hz]
                   · simp [operateN,hz,wantT,SameV]
               · have t0:=(ty 0 (by omega) true rfl).l
                 by_cases hz:(at' R.vals 0).l.length=0
                 · simp [operateN,hz] at he
                 · refine key ⟨true,0,(at' R.vals 0).l.tail⟩ ?_ ?_
                   · simp [resultB,t0,hz]
                   · simp [operateN,hz,wantT,SameV]
               · have t0:=(ty 0 (by omega) true rfl).l
                 by_cases hz:(at' R.vals 0).l.length=0
                 · refine key ⟨false,1,[]⟩ ?_ ?_
                   · simp [resultB,t0,hz]
                   · simp [operateN,hz,wantT,SameV]
                 · refine key noVl ?_ ?_
                   · simp [resultB,t0,hz]
                   · simp [operateN,hz,wantT,SameV,noVl]
             · rw [if_neg h1] at hf1
               by_cases h87:k=87
               · subst h87
                 have hk2:kids.length=2:=by simpa using hf1
                 have t0:=(ty 0 (by omega) false rfl).n
                 have t1:=(ty 1 (by omega) true rfl).l
                 by_cases hz:1000≤(at' R.vals 1).l.length
                 · simp [operateN,hz] at he
                 · refine key ⟨true,0,(at' R.vals 0).n :: (at' R.vals 1).l⟩ ?_ ?_
                   · simp [resultB,t0,t1]
                   · simp [operateN,hz,wantT,SameV]
               · rw [if_neg h87] at hf1;simp at hf1
   · rw [if_pos hre] at he;exact absurd he hre
end Go.Proofs.YtjhimhlebbamoaaDoor
/- The cost model:what Predict counts. No program in sight. -/
namespace Go.Proofs.YtjhimhlebbamoaaDoor
def sumI:List Int→Int
 | []=>0
 | x :: r=>x+sumI r
theorem sumI_append:∀ l m:List Int,sumI (l ++ m)=sumI l+sumI m
 | [],m=>by simp [sumI]
 | x :: l,m=>by rw [List.cons_append,sumI,sumI,sumI_append l m];omega
theorem sumI_take (l:List Int) (k:Nat) (h:k < l.length):sumI (l.take (k+1))=sumI (l.take k)+at' l k:=by
 rw [List.take_add_one,List.getElem?_eq_getElem h,sumI_append,at_eq h];simp [sumI]
theorem sumI_nonneg:∀ l:List Int,(∀ x ∈ l,0≤x)→0≤sumI l
 | [],_=>by simp [sumI]
 | x :: l,h=>by
   rw [sumI]
   have:=sumI_nonneg l (fun y hy=>h y (List.mem_cons_of_mem _ hy))
   have:=h x (List.mem_cons_self ..)
   omega
def addAt (l:List Int) (i:Nat) (n:Int):List Int:=l.set i (at' l i+n)
theorem addAt_len (l:List Int) (i:Nat) (n:Int):(addAt l i n).length=l.length:=by simp [addAt]
theorem sumI_addAt:∀ (l:List Int) (i:Nat) (n:Int),i < l.length→sumI (addAt l i n)=sumI l+n
 | [],i,n,h=>by simp at h
 | x :: l,0,n,h=>by simp [addAt,sumI,at'];omega
 | x :: l,i+1,n,h=>by
   have:=sumI_addAt l i n (by simpa using h)
   simp only [addAt,List.set_cons_succ,sumI,at',List.getD_cons_succ] at this ⊢
   omega
theorem addAt_at (l:List Int) (i j:Nat) (n:Int) (h:i < l.length):at' (addAt l i n) j=if j=i then at' l i+n else at' l j:=by
 by_cases e:j=i
 · subst e;simp [addAt,at',List.getD_eq_getElem?_getD,h]
 · have e':¬ i=j:=fun h=>e h.symm
   simp [addAt,at',List.getD_eq_getElem?_getD,e,e']
structure Cnt where
 calls:List Int
 kept:List Int
def Cnt.total (s:Cnt):Int:=sumI s.calls+sumI s.kept
def Cnt.Len (s:Cnt) (N:Nat):Prop:=s.calls.length=N∧s.kept.length=N
def hit (s:Cnt) (keeps:Bool) (f:Int) (n:Int):Cnt:=if keeps then ⟨s.calls,addAt s.kept f.toNat n⟩ else ⟨addAt s.calls f.toNat n,s.kept⟩
theorem hit_len {s:Cnt} {N:Nat} (h:s.Len N) (keeps:Bool) (f n:Int):(hit s keeps f n).Len N:=by
 unfold hit
 cases keeps
 · exact ⟨(addAt_len _ _ _).trans h.1,h.2⟩
 · exact ⟨h.1,(addAt_len _ _ _).trans h.2⟩
theorem hit_total {s:Cnt} {N:Nat} (h:s.Len N) (keeps:Bool) {f:Int} (n:Int) (hf:f.toNat < N):(hit s keeps f n).total=s.total+n:=by
 unfold hit Cnt.total
 cases keeps
 · simp only [Bool.false_eq_true,if_false];rw [sumI_addAt _ _ _ (by rw [h.1];exact hf)];omega
 · simp only [if_true];rw [sumI_addAt _ _ _ (by rw [h.2];exact hf)];omega
mutual
def visT (pu:Tr→Int) (K:Int→Bool):Tr→Bool→Int→Cnt→Int × Cnt
 | .mk f args res cs,keeps,n,s=>
   ((if keeps then pu (.mk f args res cs) else 0)+(visL pu K cs (if keeps then n else n * 2) (hit s keeps f n)).1,(visL pu K cs (if keeps then n else n * 2) (hit s keeps f n)).2)
def visL (pu:Tr→Int) (K:Int→Bool):List Tr→Int→Cnt→Int × Cnt
 | [],n,s=>(0,s)
 | t :: r,n,s=>
   ((if K t.f then (visT pu K t (K t.f) n s).1 else 0)+(visL pu K r n (visT pu K t (K t.f) n s).2).1,(visL pu K r n (visT pu K t (K t.f) n s).2).2)
end
mutual
def wT (K:Int→Bool):Tr→Bool→Int
 | .mk f args res cs,keeps=>1+(if keeps then 1 else 2) * wL K cs
def wL (K:Int→Bool):List Tr→Int
 | []=>0
 | t :: r=>wT K t (K t.f)+wL K r
end
mutual
def gT (pu:Tr→Int) (K:Int→Bool):Tr→Bool→Int
 | .mk f args res cs,keeps=>(if keeps then pu (.mk f args res cs) else 0)+gL pu K cs
def gL (pu:Tr→Int) (K:Int→Bool):List Tr→Int
 | []=>0
 | t :: r=>(if K t.f then gT pu K t (K t.f) else 0)+gL pu K r
end
mutual
theorem visT_g (pu:Tr→Int) (K:Int→Bool):∀ (t:Tr) (keeps:Bool) (n:Int) (s:Cnt),(visT pu K t keeps n s).1=gT pu K t keeps
 | .mk f args res cs,keeps,n,s=>by rw [visT,gT,visL_g pu K cs]
theorem visL_g (pu:Tr→Int) (K:Int→Bool):∀ (l:List Tr) (n:Int) (s:Cnt),(visL pu K l n s).1=gL pu K l
 | [],n,s=>by rw [visL,gL]
 | t :: r,n,s=>by rw [visL,gL,visT_g pu K t,visL_g pu K r]
end
mutual
theorem visT_total (pu:Tr→Int) (K:Int→Bool) {ap:Ap} {lib:List Fn}:∀ (t:Tr) (keeps:Bool) (n:Int) (s:Cnt),TrOk ap lib t→s.Len lib.length→(visT pu K t keeps n s).2.total=s.total+n * wT K t keeps∧(visT pu K t keeps n s).2.Len lib.length
 | .mk f args res cs,keeps,n,s,ht,hs=>by
   rw [TrOk] at ht
   obtain ⟨h1,h2⟩:=visL_total pu K cs (if keeps then n else n * 2) (hit s keeps f n) ht.2 (hit_len hs keeps f n)
   have h3:=hit_total hs keeps n ht.1.2.1
   rw [visT,wT]
   refine ⟨?_,h2⟩
   show (visL pu K cs (if keeps then n else n * 2) (hit s keeps f n)).2.total=_
   rw [h1,h3]
   cases keeps
   · simp only [Bool.false_eq_true,if_false];rw [Int.mul_add,Int.mul_one,Int.mul_assoc];omega
   · simp only [if_true];rw [Int.mul_add,Int.mul_one,Int.one_mul];omega
theorem visL_total (pu:Tr→Int) (K:Int→Bool) {ap:Ap} {lib:List Fn}:∀ (l:List Tr) (n:Int) (s:Cnt),TrOks ap lib l→s.Len lib.length→(visL pu K l n s).2.total=s.total+n * wL K l∧(visL pu K l n s).2.Len lib.length
 | [],n,s,_,hs=>by rw [visL,wL];exact ⟨by simp,hs⟩
 | t :: r,n,s,ht,hs=>by
   rw [TrOks] at ht
   obtain ⟨h1,h2⟩:=visT_total pu K t (K t.f) n s ht.1 hs
   obtain ⟨h3,h4⟩:=visL_total pu K r n _ ht.2 h2
   rw [visL,wL]
   exact ⟨by show (visL pu K r n _).2.total=_;rw [h3,h1,Int.mul_add];omega,h4⟩
end
mutual
theorem wT_pos (K:Int→Bool):∀ (t:Tr) (keeps:Bool),1≤wT K t keeps
 | .mk f args res cs,keeps=>by
   have:=wL_pos K cs
   rw [wT]
   cases keeps
   · simp only [Bool.false_eq_true,if_false];omega
   · simp only [if_true];omega
theorem wL_pos (K:Int→Bool):∀ l:List Tr,0≤wL K l
 | []=>by rw [wL];omega
 | t :: r=>by
   have h1:=wT_pos K t (K t.f)
   have h2:=wL_pos K r
   rw [wL];omega
end
mutual
theorem wT_mono {K K':Int→Bool} (h:∀ f,K f=true→K' f=true):∀ (t:Tr) (a b:Bool),(a=true→b=true)→wT K' t b≤wT K t a
 | .mk f args res cs,a,b,hab=>by
   have h1:=wL_mono h cs
   have h2:=wL_pos K' cs
   rw [wT,wT]
   cases a <;> cases b <;> simp at hab ⊢ <;> omega
theorem wL_mono {K K':Int→Bool} (h:∀ f,K f=true→K' f=true):∀ l:List Tr,wL K' l≤wL K l
 | []=>by rw [wL,wL];omega
 | t :: r=>by
   have h1:=wT_mono h t (K t.f) (K' t.f) (h t.f)
   have h2:=wL_mono h r
   rw [wL,wL];omega
end
mutual
def stepsT:Tr→Int
 | .mk f args res cs=>1+stepsL cs
def stepsL:List Tr→Int
 | []=>0
 | t :: r=>stepsT t+stepsL r
end
structure Grows (s s':Cnt):Prop where
 c:∀ i,at' s.calls i≤at' s'.calls i
 k:∀ i,at' s.kept i≤at' s'.kept i
theorem Grows.refl (s:Cnt):Grows s s:=⟨fun _=>Int.le_refl _,fun _=>Int.le_refl _⟩
theorem Grows.trans {a b c:Cnt} (h:Grows a b) (g:Grows b c):Grows a c:=⟨fun i=>Int.le_trans (h.c i) (g.c i),fun i=>Int.le_trans (h.k i) (g.k i)⟩
theorem hit_grows {s:Cnt} {N:Nat} (h:s.Len N) (keeps:Bool) {f n:Int} (hf:f.toNat < N) (hn:0≤n):Grows s (hit s keeps f n):=by
 unfold hit
 cases keeps
 · refine ⟨fun i=>?_,fun i=>Int.le_refl _⟩
   show _≤at' (addAt s.calls f.toNat n) i
   rw [addAt_at _ _ _ _ (by rw [h.1];exact hf)]
   split
   · rename_i e;subst e;omega
   · omega
 · refine ⟨fun i=>Int.le_refl _,fun i=>?_⟩
   show _≤at' (addAt s.kept f.toNat n) i
   rw [addAt_at _ _ _ _ (by rw [h.2];exact hf)]
   split
   · rename_i e;subst e;omega
   · omega
structure Root (K:Int→Bool) (N:Nat) (s s':Cnt):Prop where
 grows:Grows s s'
 clean:∀ f:Int,0≤f→K f=true→at' s'.calls f.toNat=at' s.calls f.toNat
 keep:∀ f:Int,0≤f→K f=false→at' s'.kept f.toNat=at' s.kept f.toNat
 even:∀ i,(at' s'.kept i) % 2=(at' s.kept i) % 2
theorem Root.trans {K:Int→Bool} {N:Nat} {a b c:Cnt} (h:Root K N a b) (g:Root K N b c):Root K N a c:=
 ⟨h.grows.trans g.grows,fun f h0 hf=>(g.clean f h0 hf).trans (h.clean f h0 hf),fun f h0 hf=>(g.keep f h0 hf).trans (h.keep f h0 hf),fun i=>(g.even i).trans (h.even i)⟩
theorem hit_root {K:Int→Bool} {s:Cnt} {N:Nat} (h:s.Len N) {f n:Int} (h0:0≤f) (hf:f.toNat < N) (hn:0≤n) (h2:n % 2=0):Root K N s (hit s (K f) f n):=by
 refine ⟨hit_grows h _ hf hn,fun g g0 hg=>?_,fun g g0 hg=>?_,fun i=>?_⟩
 · unfold hit
   cases e:K f
   · show at' (addAt s.calls f.toNat n) g.toNat=_
     have hne:¬ g.toNat=f.toNat:=fun e2=>by
      have e3:g=f:=by omega
      subst e3
      rw [e] at hg
      simp at hg
     rw [addAt_at _ _ _ _ (by rw [h.1];exact hf),if_neg hne]
   · rfl
 · unfold hit
   cases e:K f
   · rfl
   · show at' (addAt s.kept f.toNat n) g.toNat=_
     have hne:¬ g.toNat=f.toNat:=fun e2=>by
      have e3:g=f:=by omega
      subst e3
      rw [e] at hg
      simp at hg
     rw [addAt_at _ _ _ _ (by rw [h.2];exact hf),if_neg hne]
 · unfold hit
   cases e:K f
   · rfl
   · show at' (addAt s.kept f.toNat n) i % 2=_
     rw [addAt_at _ _ _ _ (by rw [h.2];exact hf)]
     split
     · rename_i e;subst e;omega
     · rfl
mutual
theorem visT_root (pu:Tr→Int) (K:Int→Bool) {ap:Ap} {lib:List Fn}:∀ (t:Tr) (n:Int) (s:Cnt),TrOk ap lib t→s.Len lib.length→0≤n→n % 2=0→Root K lib.length s (visT pu K t (K t.f) n s).2
 | .mk f args res cs,n,s,ht,hs,hn,h2=>by
   rw [TrOk] at ht
   rw [visT]
   exact (hit_root hs ht.1.1 ht.1.2.1 hn h2).trans (visL_root pu K cs _ _ ht.2 (hit_len hs _ f n) (by split <;> omega) (by split <;> omega))
theorem visL_root (pu:Tr→Int) (K:Int→Bool) {ap:Ap} {lib:List Fn}:∀ (l:List Tr) (n:Int) (s:Cnt),TrOks ap lib l→s.Len lib.length→0≤n→n % 2=0→Root K lib.length s (visL pu K l n s).2
 | [],n,s,_,hs,hn,h2=>by rw [visL];exact ⟨Grows.refl _,fun _ _ _=>rfl,fun _ _ _=>rfl,fun _=>rfl⟩
 | t :: r,n,s,ht,hs,hn,h2=>by
   rw [TrOks] at ht
   rw [visL]
   exact (visT_root pu K t n s ht.1 hs hn h2).trans (visL_root pu K r n _ ht.2 (visT_total pu K t (K t.f) n s ht.1 hs).2 hn h2)
end
theorem root_counts (pu:Tr→Int) (K:Int→Bool) {ap:Ap} {lib:List Fn} (t:Tr) (ht:TrOk ap lib t):
 let s':=(visT pu K t false 1 ⟨List.replicate lib.length 0,List.replicate lib.length 0⟩).2
 s'.Len lib.length∧(∀ i,0≤at' s'.calls i)∧(∀ i,0≤at' s'.kept i)∧1≤at' s'.calls t.f.toNat∧(∀ f:Int,0≤f→K f=true→at' s'.calls f.toNat=if f=t.f then 1 else 0)∧(∀ f:Int,0≤f→K f=false→at' s'.kept f.toNat=0)∧(∀ i,at' s'.kept i % 2=0):=by
 have hz:∀ i,at' (List.replicate lib.length (0:Int)) i=0:=fun i=>by
  simp only [at',List.getD_eq_getElem?_getD,List.getElem?_replicate]
  split <;> rfl
 have hL:(⟨List.replicate lib.length 0,List.replicate lib.length 0⟩:Cnt).Len lib.length:=⟨by simp,by simp⟩
 have h0:=visT_total pu K t false 1 _ ht hL
 cases t with
 | mk f args res cs=>
   rw [TrOk] at ht
   have hH:=hit_len hL false f 1
   have hR:=visL_root pu K cs (1 * 2) _ ht.2 hH (by omega) (by omega)
   have hat:∀ i,at' (hit ⟨List.replicate lib.length 0,List.replicate lib.length 0⟩ false f 1).calls i=if i=f.toNat then 1 else 0:=fun i=>by
    show at' (addAt (List.replicate lib.length 0) f.toNat 1) i=_
    rw [addAt_at _ _ _ _ (by simpa using ht.1.2.1),hz,hz];rfl
   have hk:∀ i,at' (hit ⟨List.replicate lib.length 0,List.replicate lib.length 0⟩ false f 1).kept i=0:=fun i=>hz i
   have e:(visT pu K (.mk f args res cs) false 1 ⟨List.replicate lib.length 0,List.replicate lib.length 0⟩).2=(visL pu K cs (1 * 2) (hit ⟨List.replicate lib.length 0,List.replicate lib.length 0⟩ false f 1)).2:=by rw [visT];rfl
   rw [e] at h0
   show Cnt.Len _ _∧_
   rw [e]
   refine ⟨h0.2,fun i=>?_,fun i=>?_,?_,fun g g0 hg=>?_,fun g g0 hg=>?_,fun i=>?_⟩
   · have:=hR.grows.c i;rw [hat] at this;split at this <;> omega
   · have:=hR.grows.k i;rw [hk] at this;omega
   · have:=hR.grows.c f.toNat;rw [hat,if_pos rfl] at this;exact this
   · rw [hR.clean g g0 hg,hat]
     show (if g.toNat=f.toNat then (1:Int) else 0)=if g=f then 1 else 0
     by_cases e2:g=f
     · rw [if_pos e2,if_pos (by rw [e2])]
     · rw [if_neg e2,if_neg (by have:=ht.1.1;omega)]
   · rw [hR.keep g g0 hg,hk]
   · rw [hR.even i,hk];rfl
end Go.Proofs.YtjhimhlebbamoaaDoor
/- Evaluation:more fuel,what it costs,how long lists become. No program in sight. -/
namespace Go.Proofs.YtjhimhlebbamoaaDoor
abbrev w0L:List Tr→Int:=wL (fun _=>false)
abbrev w0T (t:Tr):Int:=wT (fun _=>false) t false
theorem w0L_append:∀ l m:List Tr,w0L (l ++ m)=w0L l+w0L m
 | [],m=>by simp [w0L,wL]
 | t :: l,m=>by
   have:=w0L_append l m
   simp only [w0L] at this ⊢
   rw [List.cons_append,wL,wL,this];omega
theorem stepsL_append:∀ l m:List Tr,stepsL (l ++ m)=stepsL l+stepsL m
 | [],m=>by simp [stepsL]
 | t :: l,m=>by rw [List.cons_append,stepsL,stepsL,stepsL_append l m];omega
def CostE (f:Int) (m:Nat) (fuel:Int) (calls:List Tr):Prop:=fuel≤f∧stepsL calls≤f - fuel∧w0L calls≤(f - fuel) * 2 ^ m
theorem CostE.nil {f:Int} {m:Nat} {g:Int} (h:g≤f):CostE f m g []:=⟨h,by simp [stepsL];omega,by simp only [w0L,wL];exact Int.mul_nonneg (by omega) (Int.le_of_lt (Int.pow_pos (by omega)))⟩
theorem CostE.append {f g h:Int} {m:Nat} {a b:List Tr} (h1:CostE f m g a) (h2:CostE g m h b):CostE f m h (a ++ b):=by
 obtain ⟨a1,a2,a3⟩:=h1
 obtain ⟨b1,b2,b3⟩:=h2
 refine ⟨by omega,by rw [stepsL_append];omega,?_⟩
 rw [w0L_append,show f - h=(f - g)+(g - h) by omega,Int.add_mul];omega
theorem CostE.less {f f' g:Int} {m:Nat} {a:List Tr} (h:CostE f m g a) (hf:f≤f'):CostE f' m g a:=by
 have:=(CostE.nil (m:=m) hf).append h
 simpa using this
theorem evalL_cost {g:Nd→Int→ER} {m:Nat} (h:∀ n f,CostE f m (g n f).fuel (g n f).calls):∀ (l:List Nd) (f:Int),CostE f m (evalL g l f).fuel (evalL g l f).calls
 | [],f=>CostE.nil (Int.le_refl _)
 | n :: r,f=>by
   simp only [evalL]
   split
   · exact h n f
   · exact (h n f).append (evalL_cost h r (g n f).fuel)
theorem eval_cost (ap:Ap) (lib:List Fn):∀ (d:Nat) (n:Nd) (env:VEnv) (f active:Int) (m:Nat),active=30 - m→CostE f m (evalN ap lib d n env f active).fuel (evalN ap lib d n env f active).calls:=by
 intro d
 induction d with
 | zero=>intro n env f active m _;rw [evalN];exact CostE.nil (Int.le_refl _)
 | succ d IH=>
   intro n env f active m hm
   obtain ⟨k,num,name,kids⟩:=n
   rw [evalN]
   by_cases hf:f≤0
   · rw [if_pos hf];exact CostE.nil (Int.le_refl _)
   rw [if_neg hf]
   split
   · exact CostE.nil (by show f - 1≤f;omega)
   split
   · exact CostE.nil (by show f - 1≤f;omega)
   split
   · simp only
     have h1:=(IH (at' kids 0) env (f - 1) active m hm).less (show f - 1≤f by omega)
     split
     · exact h1
     · exact h1.append (IH _ env _ active m hm)
   split
   · simp only
     have h1:=(IH (at' kids 0) env (f - 1) active m hm).less (show f - 1≤f by omega)
     split
     · exact h1
     · exact h1.append (IH _ _ _ active m hm)
   · simp only
     have h1':=evalL_cost (g:=fun n f=>evalN ap lib d n env f active) (m:=m) (fun n f=>IH n env f active m hm) kids (f - 1)
     generalize evalL (fun n f=>evalN ap lib d n env f active) kids (f - 1)=r at h1' ⊢
     have h1:=h1'.less (show f - 1≤f by omega)
     split
     · exact h1
     split
     · exact h1
     split
     · exact h1
     · rename_i ha
       obtain ⟨m',rfl⟩:∃ m',m=m'+1:=⟨m - 1,by omega⟩
       have h2:=IH (fnAt lib (findF lib name)).body (bindPars (fnAt lib (findF lib name)).params r.vals) r.fuel (active+1) m' (by omega)
       generalize evalN ap lib d (fnAt lib (findF lib name)).body (bindPars (fnAt lib (findF lib name)).params r.vals) r.fuel (active+1)=y at h2 ⊢
       obtain ⟨b1,b2,b3⟩:=h2
       have hp:(1:Int)≤2 ^ (m'+1):=Int.pow_pos (by omega)
       split
       · have h4:=h1.append (CostE.nil (m:=m'+1) b1)
         rw [List.append_nil] at h4
         exact h4
       · have h3:CostE (r.fuel+1) (m'+1) y.fuel [.mk (findF lib name) (r.vals.map cleanV) (cleanV y.val) y.calls]:=by
          refine ⟨by omega,by simp only [stepsL,stepsT];omega,?_⟩
          simp only [w0L,wL,wT,Bool.false_eq_true,if_false] at b3 ⊢
          rw [show r.fuel+1 - y.fuel=(r.fuel - y.fuel)+1 by omega,Int.add_mul,Int.pow_succ]
          rw [Int.pow_succ] at hp
          have e:(r.fuel - y.fuel) * (2 ^ m' * 2)=2 * ((r.fuel - y.fuel) * 2 ^ m'):=by rw [← Int.mul_assoc,Int.mul_comm]
          rw [e]
          omega
         have h4:=h1'
         have h5:CostE f (m'+1) (r.fuel+1) r.calls:=by
          obtain ⟨a1,a2,a3⟩:=h4
          exact ⟨by omega,by omega,by rw [show f - (r.fuel+1)=f - 1 - r.fuel by omega];exact a3⟩
         exact h5.append h3
def VLen (v:Vl):Prop:=v.l.length≤1000
theorem vlen_no:VLen noVl:=by simp [VLen,noVl]
theorem vlen_clean {v:Vl} (h:VLen v):VLen (cleanV v):=by unfold cleanV;split <;> simp [VLen] at h ⊢;exact h
mutual
def TrLen:Tr→Prop
 | .mk f args res cs=>(∀ a ∈ args,VLen a)∧VLen res∧TrLens cs
def TrLens:List Tr→Prop
 | []=>True
 | t :: r=>TrLen t∧TrLens r
end
theorem TrLens.append:∀ {l m:List Tr},TrLens l→TrLens m→TrLens (l ++ m)
 | [],_,_,h=>h
 | t :: l,m,h,h'=>by
   rw [TrLens] at h
   rw [List.cons_append,TrLens]
   exact ⟨h.1,h.2.append h'⟩
theorem TrLens.nil:TrLens []:=by rw [TrLens];trivial
def EnvLen (env:VEnv):Prop:=∀ s,VLen (env s)
theorem EnvLen.put {env:VEnv} (h:EnvLen env) (s:ByteArray) {v:Vl} (hv:VLen v):EnvLen (env.put s v):=fun y=>by
 simp only [VEnv.put];split
 · exact hv
 · exact h y
theorem bind_len:∀ (ps:List Par) (args:List Vl) (e:VEnv),EnvLen e→(∀ a ∈ args,VLen a)→EnvLen ((ps.zip args).foldl (fun e p=>e.put p.1.name p.2) e)
 | [],args,e,he,ha=>he
 | p :: ps,[],e,he,ha=>he
 | p :: ps,a :: args,e,he,ha=>by
   rw [List.zip_cons_cons,List.foldl_cons]
   exact bind_len ps args _ (he.put _ (ha a (List.mem_cons_self ..))) (fun b hb=>ha b (List.mem_cons_of_mem _ hb))
theorem bindPars_len (ps:List Par) (args:List Vl) (h:∀ a ∈ args,VLen a):EnvLen (bindPars ps args):=bind_len ps args noEnv (fun _=>vlen_no) h
theorem evalL_len {g:Nd→Int→ER} (h:∀ n f,VLen (g n f).val∧TrLens (g n f).calls):∀ (l:List Nd) (f:Int),(∀ a ∈ (evalL g l f).vals,VLen a)∧TrLens (evalL g l f).calls
 | [],f=>⟨fun a ha=>by simp [evalL] at ha,TrLens.nil⟩
 | n :: r,f=>by
   simp only [evalL]
   split
   · exact ⟨fun a ha=>by simp at ha,(h n f).2⟩
   · obtain ⟨h1,h2⟩:=evalL_len h r (g n f).fuel
     refine ⟨fun a ha=>?_,(h n f).2.append h2⟩
     rcases List.mem_cons.1 ha with rfl|ha
     · exact (h n f).1
     · exact h1 a ha
theorem at_len {l:List Vl} (h:∀ a ∈ l,VLen a) (j:Nat):VLen (at' l j):=by
 by_cases hj:j < l.length
 · exact h _ (at_mem hj)
 · simp [at',List.getD_eq_getElem?_getD,List.getElem?_eq_none (Nat.le_of_not_lt hj),VLen,default]
theorem operate_len (ap:Ap) (k num:Int) {l:List Vl} (h:∀ a ∈ l,VLen a):VLen (operateN ap k num l).1:=by
 have h0:=at_len h 0
 have h1:=at_len h 1
 unfold VLen at h0 h1
 unfold operateN
 repeat' split
 all_goals simp [VLen,noVl]
 all_goals omega
theorem eval_len (ap:Ap) (lib:List Fn):∀ (d:Nat) (n:Nd) (env:VEnv) (f active:Int),EnvLen env→VLen (evalN ap lib d n env f active).val∧TrLens (evalN ap lib d n env f active).calls:=by
 intro d
 induction d with
 | zero=>intro n env f active _;rw [evalN];exact ⟨vlen_no,TrLens.nil⟩
 | succ d IH=>
   intro n env f active he
   obtain ⟨k,num,name,kids⟩:=n
   rw [evalN]
   split
   · exact ⟨vlen_no,TrLens.nil⟩
   split
   · exact ⟨by simp [VLen],TrLens.nil⟩
   split
   · exact ⟨he _,TrLens.nil⟩
   split
   · simp only
     have h1:=IH (at' kids 0) env (f - 1) active he
     split
     · exact ⟨vlen_no,h1.2⟩
     · have h2:=IH (if (evalN ap lib d (at' kids 0) env (f - 1) active).val.n≠0 then at' kids 1 else at' kids 2) env (evalN ap lib d (at' kids 0) env (f - 1) active).fuel active he
       exact ⟨h2.1,h1.2.append h2.2⟩
   split
   · simp only
     have h1:=IH (at' kids 0) env (f - 1) active he
     split
     · exact ⟨vlen_no,h1.2⟩
     · have h2:=IH (at' kids 1) (env.put name (evalN ap lib d (at' kids 0) env (f - 1) active).val) (evalN ap lib d (at' kids 0) env (f - 1) active).fuel active (he.put _ h1.1)
       exact ⟨h2.1,h1.2.append h2.2⟩
   · simp only
     have h1:=evalL_len (g:=fun n f=>evalN ap lib d n env f active) (fun n f=>IH n env f active he) kids (f - 1)
     generalize evalL (fun n f=>evalN ap lib d n env f active) kids (f - 1)=r at h1 ⊢
     split
     · exact ⟨vlen_no,h1.2⟩
     split
     · exact ⟨operate_len ap k num h1.1,h1.2⟩
     split
     · exact ⟨vlen_no,h1.2⟩
     · have h2:=IH (fnAt lib (findF lib name)).body (bindPars (fnAt lib (findF lib name)).params r.vals) r.fuel (active+1) (bindPars_len _ _ h1.1)
       generalize evalN ap lib d (fnAt lib (findF lib name)).body (bindPars (fnAt lib (findF lib name)).params r.vals) r.fuel (active+1)=y at h2 ⊢
       split
       · exact ⟨vlen_no,h1.2⟩
       · refine ⟨vlen_clean h2.1,h1.2.append ?_⟩
         rw [TrLens,TrLen]
         exact ⟨⟨fun a ha=>by
          obtain ⟨b,hb,rfl⟩:=List.mem_map.1 ha
          exact vlen_clean (h1.1 b hb),vlen_clean h2.1,h2.2⟩,TrLens.nil⟩
end Go.Proofs.YtjhimhlebbamoaaDoor
/- The normal form's size;what the execution of binds leaves:no program in sight. -/
namespace Go.Proofs.YtjhimhlebbamoaaDoor
mutual
def sizeB:Bd→Nat
 | .mk _ _ _ _ _ args thn els=>args.length+sizeBs thn+sizeBs els+1
def sizeBs:List Bd→Nat
 | []=>0
 | b :: r=>sizeB b+sizeBs r
end
theorem sizeBs_append:∀ l m:List Bd,sizeBs (l ++ m)=sizeBs l+sizeBs m
 | [],m=>by rw [List.nil_append,sizeBs];omega
 | b :: l,m=>by rw [List.cons_append,sizeBs,sizeBs,sizeBs_append l m];omega
theorem sizeB_var (tn x:ByteArray) (b:Bool):sizeB (varB tn b x)=2:=by rw [varB,sizeB,sizeBs];rfl
mutual
theorem expr_sizeB (lib:List Fn):∀ (n:Nd) (env:Env) (ts:List Par),sizeBs (exprN lib n env ts).bs+3≤6 * sizeN n
 | .mk k num name kids,env,ts=>by
   unfold exprN
   rw [sizeN]
   split
   · simp only [sizeBs];omega
   · split
     · split
       · rename_i a b
         have ha:=expr_sizeB lib a env ts
         have hb:=expr_sizeB lib b ((exprN lib a env ts).env.put name (exprN lib a env ts).par) (exprN lib a env ts).ts
         simp only [sizeL,sizeBs_append]
         omega
       · simp only [sizeBs];omega
     · split
       · split
         · rename_i c a b
           have hc:=expr_sizeB lib c env ts
           have ha:=expr_sizeB lib a (exprN lib c env ts).env ((exprN lib c env ts).ts ++ [⟨tname (exprN lib c env ts).ts.length,false⟩])
           have hb:=expr_sizeB lib b (exprN lib a (exprN lib c env ts).env ((exprN lib c env ts).ts ++ [⟨tname (exprN lib c env ts).ts.length,false⟩])).env (setTy (exprN lib a (exprN lib c env ts).env ((exprN lib c env ts).ts ++ [⟨tname (exprN lib c env ts).ts.length,false⟩])).ts (exprN lib c env ts).ts.length (exprN lib a (exprN lib c env ts).env ((exprN lib c env ts).ts ++ [⟨tname (exprN lib c env ts).ts.length,false⟩])).par.list)
           simp only [sizeL,sizeBs_append,sizeBs,sizeB,sizeB_var,List.length_singleton]
           omega
         · simp only [sizeBs];omega
       · have h:=args_sizeB lib (decide (k=85)) kids env ts
         simp only [sizeBs_append,sizeBs,sizeB]
         omega
theorem args_sizeB (lib:List Fn) (call:Bool):∀ (l:List Nd) (env:Env) (ts:List Par),sizeBs (argsN lib call l env ts).bs+(argsN lib call l env ts).args.length≤6 * sizeL l
 | [],env,ts=>by rw [argsN];simp [sizeBs]
 | n :: r,env,ts=>by
   rw [argsN,sizeL]
   have hn:=expr_sizeB lib n env ts
   split
   · have hr:=args_sizeB lib call r (exprN lib n env ts).env ((exprN lib n env ts).ts ++ [⟨tname (exprN lib n env ts).ts.length,(exprN lib n env ts).par.list⟩])
     simp only [sizeBs_append,sizeBs,sizeB_var,List.length_cons]
     omega
   · have hr:=args_sizeB lib call r (exprN lib n env ts).env (exprN lib n env ts).ts
     simp only [sizeBs_append,List.length_cons]
     omega
end
structure GoodF (lib:List Fn) (g:AFn):Prop where
 name:nameB g.name=true
 params:∀ p ∈ g.params,nameB p.name=true
 plen:g.params.length≤8
 temps:TNamed g.temps
 tlen:g.temps.length≤4000
 body:GoodBs lib g.body
 result:GName g.result
theorem norm_good {lib:List Fn} (h:(validE lib).2=0) {i:Nat} (hi:i < lib.length):GoodF lib (normF lib (at' lib i))∧sizeBs (normF lib (at' lib i)).body≤6 * sizeN (at' lib i).body∧(normF lib (at' lib i)).temps.length≤2 * sizeN (at' lib i).body:=by
 have hv:=valid_ok h hi
 have hp:=pars_names hv.pars
 have hx:=expr_good lib (fun j hj=>pars_le (valid_ok h hj).pars) (at' lib i).body _ (parsEnv (at' lib i).params) [] hv.form hv.check (agree_pars _ hp) (fun j hj=>by simp at hj) (by have:=hv.size;simp;omega)
 have hl:=expr_len lib (at' lib i).body (parsEnv (at' lib i).params) []
 have hz:=expr_sizeB lib (at' lib i).body (parsEnv (at' lib i).params) []
 have hsz:=hv.size
 simp only [List.length_nil] at hl
 refine ⟨⟨hv.name,hp,pars_le hv.pars,hx.ts,?_,hx.bs,hx.name⟩,?_,?_⟩
 · show (exprN lib (at' lib i).body (parsEnv (at' lib i).params) []).ts.length≤4000
   omega
 · show sizeBs (exprN lib (at' lib i).body (parsEnv (at' lib i).params) []).bs≤_
   omega
 · show (exprN lib (at' lib i).body (parsEnv (at' lib i).params) []).ts.length≤_
   omega
def LenE (v:VEnv) (M:Nat):Prop:=∀ s,(v s).l.length≤M
theorem LenE.put {v:VEnv} {M:Nat} (h:LenE v M) (s:ByteArray) {x:Vl} (hx:x.l.length≤M):LenE (v.put s x) M:=fun y=>by
 simp only [VEnv.put];split
 · exact hx
 · exact h y
theorem LenE.mono {v:VEnv} {M M':Nat} (h:LenE v M) (hm:M≤M'):LenE v M':=fun s=>Nat.le_trans (h s) hm
theorem result_len {ap:Ap} {op num:Int} {list:Bool} {args:List ByteArray} {vals:VEnv} {M:Nat} {x:Vl} (h:LenE vals M) (hr:resultB ap op num list args vals=some x):x.l.length≤M+1:=by
 have h0:=h (at' args 0)
 have h1:=h (at' args 1)
 unfold resultB at hr
 repeat' split at hr
 all_goals first
  | (simp at hr;done)
  | (simp only [Option.some.injEq] at hr;subst hr;first|(simp [noVl];done)|(simp;omega)|(split <;> simp [noVl]))
mutual
theorem execB_len (ap:Ap) {K:Nat}:∀ (b:Bd) (v:VEnv) (c:List Tr) (v':VEnv) (c':List Tr) (M:Nat),execB ap b v c=some (v',c')→LenE v M→K≤M→(∀ t ∈ c,t.res.l.length≤K)→LenE v' (M+sizeB b)∧∃ pre,c=pre ++ c'
 | .mk tn list op num name args thn els,v,c,v',c',M,h,hv,hK,hc=>by
   rw [execB_eq] at h
   rw [sizeB]
   by_cases h83:op=83
   · rw [if_pos h83] at h
     split at h
     · obtain ⟨a,b⟩:=execBs_len ap thn v c v' c' M h hv hK hc
       exact ⟨a.mono (by omega),b⟩
     · obtain ⟨a,b⟩:=execBs_len ap els v c v' c' M h hv hK hc
       exact ⟨a.mono (by omega),b⟩
   rw [if_neg h83] at h
   by_cases h85:op=85
   · rw [if_pos h85] at h
     cases c with
     | nil=>simp at h
     | cons t r=>
       simp only [Option.some.injEq,Prod.mk.injEq] at h
       obtain ⟨rfl,rfl⟩:=h
       exact ⟨(hv.mono (by omega)).put _ (by have:=hc t (List.mem_cons_self ..);omega),[t],rfl⟩
   rw [if_neg h85] at h
   cases hr:resultB ap op num list args v with
   | none=>rw [hr] at h;simp at h
   | some x=>
     rw [hr] at h
     simp only [Option.map_some,Option.some.injEq,Prod.mk.injEq] at h
     obtain ⟨rfl,rfl⟩:=h
     exact ⟨(hv.mono (by omega)).put _ (by have:=result_len hv hr;omega),[],rfl⟩
theorem execBs_len (ap:Ap) {K:Nat}:∀ (l:List Bd) (v:VEnv) (c:List Tr) (v':VEnv) (c':List Tr) (M:Nat),execBs ap l v c=some (v',c')→LenE v M→K≤M→(∀ t ∈ c,t.res.l.length≤K)→LenE v' (M+sizeBs l)∧∃ pre,c=pre ++ c'
 | [],v,c,v',c',M,h,hv,hK,hc=>by
   rw [execBs] at h
   simp only [Option.some.injEq,Prod.mk.injEq] at h
   obtain ⟨rfl,rfl⟩:=h
   exact ⟨hv.mono (by omega),[],rfl⟩
 | b :: r,v,c,v',c',M,h,hv,hK,hc=>by
   rw [execBs] at h
   rw [sizeBs]
   cases hb:execB ap b v c with
   | none=>rw [hb] at h;simp at h
   | some x=>
     obtain ⟨v1,c1⟩:=x
     rw [hb] at h
     simp only [Option.bind_some] at h
     obtain ⟨a1,pre1,e1⟩:=execB_len ap b v c v1 c1 M hb hv hK hc
     obtain ⟨a2,pre2,e2⟩:=execBs_len ap r v1 c1 v' c' (M+sizeB b) h a1 (by omega) (fun t ht=>hc t (by rw [e1];exact List.mem_append.2 (.inr ht)))
     exact ⟨a2.mono (by omega),pre1 ++ pre2,by rw [e1,e2,List.append_assoc]⟩
end
theorem exec_at {ap:Ap} {l:List Bd} {v v':VEnv} {c c':List Tr} {k:Nat} (h:execBs ap l v c=some (v',c')) (hk:k < l.length) {v1:VEnv} {c1:List Tr} (h1:execBs ap (l.take k) v c=some (v1,c1)):
 ∃ v2 c2,execB ap (at' l k) v1 c1=some (v2,c2)∧execBs ap (l.take (k+1)) v c=some (v2,c2):=by
 have e:l=l.take k ++ (at' l k :: l.drop (k+1)):=by
  rw [at_eq hk,← List.drop_eq_getElem_cons hk,List.take_append_drop]
 have h2:=h
 rw [e,exec_append,h1] at h2
 simp only [Option.bind_some] at h2
 rw [execBs] at h2
 cases hb:execB ap (at' l k) v1 c1 with
 | none=>rw [hb] at h2;simp at h2
 | some x=>
   obtain ⟨v2,c2⟩:=x
   refine ⟨v2,c2,rfl,?_⟩
   rw [List.take_succ_eq_append_getElem hk,exec_append,h1]
   simp only [Option.bind_some]
   rw [← at_eq hk,exec_one,hb]
end Go.Proofs.YtjhimhlebbamoaaDoor
