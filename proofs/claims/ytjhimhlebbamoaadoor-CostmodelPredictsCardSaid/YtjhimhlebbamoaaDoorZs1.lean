/- Contracts and plain lemmas (PRef, PTo, RfA, RfB, RfC, RfD, RfE, RfF): no statement of the seat is proved here. -/
import Derived.Test.YtjhimhlebbamoaaDoorZq07
import Derived.Test.YtjhimhlebbamoaaDoorZq04
import Derived.Test.YtjhimhlebbamoaaDoorZq08
import Derived.OneCell
import Derived.BigQuiet
/- What the reference of layer 38 relies on:valid expressions,part by part. No program in sight. -/
set_option linter.unusedSimpArgs false
set_option linter.unusedVariables false
set_option linter.unusedSectionVars false
set_option maxRecDepth 100000
set_option maxHeartbeats 12800000
namespace Go.Proofs.YtjhimhlebbamoaaDoor
structure Rdy (lib:List Fn) (n:Nd) (vis:Vis) (env:Env) (ts:List Par):Prop where
 form:formedN n=true
 check:(checkN lib n vis).2=0
 agree:Agree vis env
 tn:TNamed ts
 size:ts.length+2 * sizeN n≤10000
def PLen (lib:List Fn):Prop:=∀ i,i < lib.length→(at' lib i).params.length≤8
theorem Rdy.good {lib:List Fn} (hl:PLen lib) {n:Nd} {vis:Vis} {env:Env} {ts:List Par} (h:Rdy lib n vis env ts):GoodX lib env (checkN lib n vis).1 (exprN lib n env ts):=
 expr_good lib hl n vis env ts h.form h.check h.agree h.tn h.size
theorem rdy_var {lib:List Fn} {n:Nd} {vis:Vis} {env:Env} {ts:List Par} (h:Rdy lib n vis env ts) (hk:n.kind=81):∃ p,env n.name=some p∧exprN lib n env ts=⟨ts,[],p,env⟩:=by
 obtain ⟨hf,hc,hag,hts,hsz⟩:=h
 match n,hk,hf,hc with
 | .mk k num name kids,hk,hf,hc=>
   obtain rfl:k=81:=hk
   rw [formedN,Bool.and_eq_true] at hf
   have hkl:kids.length=0:=by
    have hf1:=hf.1
    simp [formB] at hf1;simp [hf1.2]
   obtain ⟨b,hv,hty⟩:=check_var hc hkl
   have ha:=hag name
   cases he:env name with
   | none=>rw [he] at ha;rw [hv] at ha;cases ha
   | some p=>exact ⟨p,he,by rw [exprN_var,he];rfl⟩
theorem rdy_let {lib:List Fn} (hl:PLen lib) {n:Nd} {vis:Vis} {env:Env} {ts:List Par} (h:Rdy lib n vis env ts) (hk:n.kind=84):
 ∃ a b vis2 X Y,n.kids=[a,b]∧X=exprN lib a env ts∧Y=exprN lib b (env.put n.name X.par) X.ts∧Rdy lib a vis env ts∧Rdy lib b vis2 (env.put n.name X.par) X.ts∧X.ts.length+1≤ts.length+2 * sizeN a∧
   (exprN lib n env ts).ts=Y.ts∧(exprN lib n env ts).bs=X.bs ++ Y.bs∧(exprN lib n env ts).par=Y.par:=by
 obtain ⟨hf,hc,hag,hts,hsz⟩:=h
 match n,hk,hf,hc,hsz with
 | .mk k num name kids,hk,hf,hc,hsz=>
   obtain rfl:k=84:=hk
   rw [formedN,Bool.and_eq_true] at hf
   obtain ⟨hf1,hf2⟩:=hf
   obtain ⟨hr,hcl,hres,hty⟩:=check_split (by decide) hc
   have hk2:kids.length=2:=by simp [formB] at hf1;exact hf1.2.2
   match kids,hk2 with
   | [a,b],_=>
     simp only [decide_true] at hcl hres
     obtain ⟨c1,c2,c3⟩:=checkL_cons hcl
     obtain ⟨d1,d2,d3⟩:=checkL_cons c2
     simp only [true_and,Nat.zero_ne_one,if_false,List.nil_append,Nat.zero_add,if_true,List.getD_cons_zero] at c1 d1
     rw [formedL,formedL,Bool.and_eq_true,Bool.and_eq_true] at hf2
     rw [sizeN,sizeL,sizeL,sizeL] at hsz
     have ga:=expr_good lib hl a vis env ts hf2.1 c1 hag hts (by omega)
     have lena:=expr_len lib a env ts
     have hag2:Agree (vis.put name (checkN lib a vis).1) (env.put name (exprN lib a env ts).par):=by
      rw [← ga.list];exact hag.put name _ ga.name
     refine ⟨a,b,_,_,_,rfl,rfl,rfl,⟨hf2.1,c1,hag,hts,by omega⟩,⟨hf2.2.1,d1,hag2,ga.ts,by omega⟩,by omega,?_,?_,?_⟩
     · rw [exprN_let];simp only [ga.env];rfl
     · rw [exprN_let];simp only [ga.env];rfl
     · rw [exprN_let];simp only [ga.env];rfl
theorem pre_at {ts us:List Par} (h:ts <+:us) {i:Nat} (hi:i < ts.length):at' us i=at' ts i:=by
 obtain ⟨r,rfl⟩:=h
 exact at_append_lt' hi
where
 at_append_lt' {l m:List Par} {j:Nat} (h:j < l.length):at' (l ++ m) j=at' l j:=by simp [at',List.getD_eq_getElem?_getD,List.getElem?_append_left h]
theorem setTy_pre {ts us:List Par} (h:ts <+:us) {i:Nat} (hi:ts.length≤i) (b:Bool):ts <+:setTy us i b:=by
 obtain ⟨r,rfl⟩:=h
 unfold setTy
 rw [List.set_append_right _ _ hi]
 exact List.prefix_append _ _
mutual
theorem expr_pre (lib:List Fn):∀ (n:Nd) (env:Env) (ts:List Par),ts <+:(exprN lib n env ts).ts
 | .mk k num name kids,env,ts=>by
   unfold exprN
   split
   · exact List.prefix_refl _
   · split
     · split
       · rename_i a b
         exact (expr_pre lib a env ts).trans (expr_pre lib b _ _)
       · exact List.prefix_refl _
     · split
       · split
         · rename_i c a b
           have hc:=expr_pre lib c env ts
           have ha:=expr_pre lib a (exprN lib c env ts).env ((exprN lib c env ts).ts ++ [⟨tname (exprN lib c env ts).ts.length,false⟩])
           have h1:=setTy_pre (hc.trans ((List.prefix_append _ _).trans ha)) hc.length_le (exprN lib a (exprN lib c env ts).env ((exprN lib c env ts).ts ++ [⟨tname (exprN lib c env ts).ts.length,false⟩])).par.list
           exact setTy_pre (h1.trans (expr_pre lib b _ _)) hc.length_le _
         · exact List.prefix_refl _
       · exact (args_pre lib (decide (k=85)) kids env ts).trans (List.prefix_append _ _)
theorem args_pre (lib:List Fn) (call:Bool):∀ (l:List Nd) (env:Env) (ts:List Par),ts <+:(argsN lib call l env ts).ts
 | [],env,ts=>by rw [argsN];exact List.prefix_refl _
 | n :: r,env,ts=>by
   rw [argsN]
   have hn:=expr_pre lib n env ts
   split
   · exact (hn.trans (List.prefix_append _ _)).trans (args_pre lib call r _ _)
   · exact hn.trans (args_pre lib call r _ _)
end
theorem setTy_same {ts:List Par} {i:Nat} {b:Bool} (hi:i < ts.length) (hb:(at' ts i).list=b):setTy ts i b=ts:=by
 subst hb
 unfold setTy
 rw [at_eq hi]
 exact List.set_getElem_self hi
theorem rdy_if {lib:List Fn} (hl:PLen lib) {n:Nd} {vis:Vis} {env:Env} {ts:List Par} (h:Rdy lib n vis env ts) (hk:n.kind=83):
 ∃ c a b X Y Z,n.kids=[c,a,b]∧X=exprN lib c env ts∧Y=exprN lib a env (X.ts ++ [⟨tname X.ts.length,false⟩])∧Z=exprN lib b env (setTy Y.ts X.ts.length Y.par.list)∧
   Rdy lib c vis env ts∧Rdy lib a vis env (X.ts ++ [⟨tname X.ts.length,false⟩])∧Rdy lib b vis env (setTy Y.ts X.ts.length Y.par.list)∧X.ts.length < Y.ts.length∧Y.ts.length≤10000∧X.ts.length≤10000∧
   GName X.par.name∧GName Y.par.name∧GName Z.par.name∧
   (exprN lib n env ts).ts=Z.ts∧(exprN lib n env ts).par=⟨tname X.ts.length,Y.par.list⟩∧
   (exprN lib n env ts).bs=X.bs ++ [.mk (tname X.ts.length) Y.par.list 83 0 ByteArray.empty [X.par.name] (Y.bs ++ [varB (tname X.ts.length) Y.par.list Y.par.name]) (Z.bs ++ [varB (tname X.ts.length) Y.par.list Z.par.name])]:=by
 obtain ⟨hf,hc,hag,hts,hsz⟩:=h
 match n,hk,hf,hc,hsz with
 | .mk k num name kids,hk,hf,hc,hsz=>
   obtain rfl:k=83:=hk
   rw [formedN,Bool.and_eq_true] at hf
   obtain ⟨hf1,hf2⟩:=hf
   obtain ⟨hr,hcl,hres,hty⟩:=check_split (by decide) hc
   have hk3:kids.length=3:=by
    rw [formB] at hf1;simp at hf1;exact hf1.2
   match kids,hk3 with
   | [c,a,b],_=>
     simp only [show decide ((83:Int)=84)=false from rfl] at hcl hres
     obtain ⟨c1,c2,c3⟩:=checkL_cons hcl
     rw [c3] at hres
     obtain ⟨d1,d2,d3⟩:=checkL_cons c2
     rw [d3] at hres
     obtain ⟨e1,e2,e3⟩:=checkL_cons d2
     rw [e3] at hres
     simp only [Bool.false_eq_true,false_and,if_false,List.nil_append,Nat.zero_add,List.cons_append] at c1 d1 e1 hres
     rw [formedL,formedL,formedL,Bool.and_eq_true,Bool.and_eq_true,Bool.and_eq_true] at hf2
     rw [sizeN,sizeL,sizeL,sizeL,sizeL] at hsz
     obtain ⟨r1,r2⟩:=result_ty hres
     have gc:=expr_good lib hl c vis env ts hf2.1 c1 hag hts (by omega)
     have lenc:=expr_len lib c env ts
     have ra:Rdy lib a vis env ((exprN lib c env ts).ts ++ [⟨tname (exprN lib c env ts).ts.length,false⟩]):=⟨hf2.2.1,d1,hag,gc.ts.snoc false,by simp only [List.length_append,List.length_singleton];omega⟩
     have ga:=ra.good hl
     have lena:=expr_len lib a env ((exprN lib c env ts).ts ++ [⟨tname (exprN lib c env ts).ts.length,false⟩])
     simp only [List.length_append,List.length_singleton] at lena
     have rb:Rdy lib b vis env (setTy (exprN lib a env ((exprN lib c env ts).ts ++ [⟨tname (exprN lib c env ts).ts.length,false⟩])).ts (exprN lib c env ts).ts.length (exprN lib a env ((exprN lib c env ts).ts ++ [⟨tname (exprN lib c env ts).ts.length,false⟩])).par.list):=
      ⟨hf2.2.2.1,e1,hag,ga.ts.set _ _,by rw [setTy_len];omega⟩
     have gb:=rb.good hl
     have lenb:=expr_len lib b env (setTy (exprN lib a env ((exprN lib c env ts).ts ++ [⟨tname (exprN lib c env ts).ts.length,false⟩])).ts (exprN lib c env ts).ts.length (exprN lib a env ((exprN lib c env ts).ts ++ [⟨tname (exprN lib c env ts).ts.length,false⟩])).par.list)
     rw [setTy_len] at lenb
     have hpre:=expr_pre lib b env (setTy (exprN lib a env ((exprN lib c env ts).ts ++ [⟨tname (exprN lib c env ts).ts.length,false⟩])).ts (exprN lib c env ts).ts.length (exprN lib a env ((exprN lib c env ts).ts ++ [⟨tname (exprN lib c env ts).ts.length,false⟩])).par.list)
     have hpa:=expr_pre lib a env ((exprN lib c env ts).ts ++ [⟨tname (exprN lib c env ts).ts.length,false⟩])
     have hrc:Rdy lib c vis env ts:=⟨hf2.1,c1,hag,hts,by omega⟩
     have heq:=exprN_if lib num name c a b env ts
     simp only [gc.env,ga.env] at heq
     generalize hX:exprN lib c env ts=X at *
     generalize hY:exprN lib a env (X.ts ++ [⟨tname X.ts.length,false⟩])=Y at *
     generalize hT:setTy Y.ts X.ts.length Y.par.list=T1 at *
     generalize hZ:exprN lib b env T1=Z at *
     have hYl:X.ts.length < Y.ts.length:=by omega
     have hZl:X.ts.length < Z.ts.length:=by omega
     have a1:at' T1 X.ts.length=⟨tname X.ts.length,Y.par.list⟩:=by
      have h2:at' Y.ts X.ts.length=⟨tname X.ts.length,false⟩:=by
       rw [pre_at hpa (by simp)]
       simp [at',List.getD_eq_getElem?_getD]
      rw [← hT,setTy_at hYl,h2]
     have a2:at' Z.ts X.ts.length=⟨tname X.ts.length,Y.par.list⟩:=by
      rw [pre_at hpre (by rw [← hT,setTy_len];exact hYl),a1]
     have hzl:Z.par.list=Y.par.list:=by
      rw [gb.list,ga.list]
      simp only [checkL,wantT] at r1
      simp at r1
      exact r1.2
     have hts2:setTy Z.ts X.ts.length Z.par.list=Z.ts:=setTy_same hZl (by rw [a2,hzl])
     rw [hts2,a1,a2] at heq
     refine ⟨c,a,b,X,Y,Z,rfl,hX.symm,hY.symm,by rw [← hZ,← hT],hrc,ra,by rw [hT];exact rb,hYl,by omega,by omega,gc.name,ga.name,gb.name,?_,?_,?_⟩
     · rw [heq]
     · rw [heq]
     · rw [heq]
theorem checkL_at {lib:List Fn} {name:ByteArray}:∀ (l:List Nd) (j:Nat) (types:List Bool) (vis:Vis),(checkL lib false name l j types vis).2=0→∀ q,q < l.length→(checkN lib (at' l q) vis).2=0
 | [],j,types,vis,h,q,hq=>by simp at hq
 | n :: r,j,types,vis,h,q,hq=>by
   obtain ⟨c1,c2,_⟩:=checkL_cons h
   simp only [Bool.false_eq_true,false_and,if_false] at c1
   cases q with
   | zero=>exact c1
   | succ q=>
     have:=checkL_at r (j+1) _ vis c2 q (by simpa using hq)
     simpa [at'] using this
structure ArgQ (lib:List Fn) (call:Bool) (n:Nd) (vis:Vis) (env:Env) (ts:List Par) (q:Nat):Prop where
 ev:(argsN lib call (n.kids.take q) env ts).env=env
 tn:TNamed (argsN lib call (n.kids.take q) env ts).ts
 len:(argsN lib call (n.kids.take q) env ts).ts.length+2 * sizeL (n.kids.drop q)+2≤10000
 args:∀ a ∈ (argsN lib call (n.kids.take q) env ts).args,GName a
 rdy:q < n.kids.length→Rdy lib (at' n.kids q) vis env (argsN lib call (n.kids.take q) env ts).ts
theorem rdy_args {lib:List Fn} (hl:PLen lib) {n:Nd} {vis:Vis} {env:Env} {ts:List Par} (h:Rdy lib n vis env ts) (h81:n.kind≠81) (h84:n.kind≠84) (call:Bool):∀ q,q≤n.kids.length→ArgQ lib call n vis env ts q:=by
 obtain ⟨hf,hc,hag,hts,hsz⟩:=h
 obtain ⟨hr,hcl,hres,hty⟩:=check_split (k:=n.kind) (num:=n.num) (name:=n.name) (kids:=n.kids) h81 (by rw [Nd.eta];exact hc)
 rw [show decide (n.kind=84)=false by simp [h84]] at hcl
 have hck:=checkL_at _ _ _ _ hcl
 have hse:=sizeN_eq n
 have key:∀ q,q < n.kids.length→2 * sizeN (at' n.kids q)+2 * sizeL (n.kids.drop (q+1))=2 * sizeL (n.kids.drop q):=fun q hq=>by
  rw [List.drop_eq_getElem_cons hq,sizeL,at_eq hq];omega
 intro q
 induction q with
 | zero=>
   intro _
   have e:argsN lib call (n.kids.take 0) env ts=⟨ts,[],[],env⟩:=by rw [List.take_zero,argsN]
   refine ⟨by rw [e],by rw [e];exact hts,by rw [e,List.drop_zero];show ts.length+2 * sizeL n.kids+2≤10000;omega,by rw [e];intro a ha;simp at ha,fun hq=>?_⟩
   rw [e]
   have:=key 0 hq
   rw [List.drop_zero] at this
   exact ⟨formed_kid hf hq,hck 0 hq,hag,hts,by show ts.length+2 * sizeN (at' n.kids 0)≤10000;omega⟩
 | succ q ih=>
   intro hq
   have hlt:q < n.kids.length:=by omega
   obtain ⟨i1,i2,i3,i4,i5⟩:=ih (by omega)
   have hrd:=i5 hlt
   have hg:=hrd.good hl
   have hk:=key q hlt
   have hle:=expr_len lib (at' n.kids q) env (argsN lib call (n.kids.take q) env ts).ts
   have e:=args_take lib call hlt env ts
   rw [argStep,i1] at e
   generalize hR:argsN lib call (n.kids.take q) env ts=R at *
   generalize hX:exprN lib (at' n.kids q) env R.ts=X at *
   have fin:∀ (T:List Par) (B:List Bd) (a:ByteArray),argsN lib call (n.kids.take (q+1)) env ts=⟨T,B,R.args ++ [a],X.env⟩→TNamed T→T.length≤R.ts.length+2 * sizeN (at' n.kids q)→GName a→ArgQ lib call n vis env ts (q+1):=fun T B a he hT hTl ha=>by
    refine ⟨by rw [he];exact hg.env,by rw [he];exact hT,by rw [he];show T.length+2 * sizeL (n.kids.drop (q+1))+2≤10000;omega,?_,fun hq2=>?_⟩
    · rw [he]
      intro b hb
      rcases List.mem_append.1 hb with hb|hb
      · exact i4 b hb
      · rw [List.mem_singleton.1 hb];exact ha
    · rw [he]
      have hk2:=key (q+1) hq2
      exact ⟨formed_kid hf hq2,hck _ hq2,hag,hT,by show T.length+2 * sizeN (at' n.kids (q+1))≤10000;omega⟩
   split at e
   · refine fin _ _ _ e (hg.ts.snoc _) (by simp only [List.length_append,List.length_singleton];omega) (gname_t (by omega))
   · refine fin _ _ _ e hg.ts (by omega) hg.name
theorem rdy_call {lib:List Fn} {n:Nd} {vis:Vis} {env:Env} {ts:List Par} (h:Rdy lib n vis env ts) (hk:n.kind=85):0≤findF lib n.name∧n.num=0:=by
 obtain ⟨hf,hc,hag,hts,hsz⟩:=h
 match n,hk,hf,hc,hsz with
 | .mk k num name kids,hk,hf,hc,hsz=>
   obtain rfl:k=85:=hk
   obtain ⟨hr,-,-,-⟩:=check_split (by decide) hc
   rw [formedN,Bool.and_eq_true] at hf
   have hf1:=hf.1
   show 0≤findF lib name∧num=0
   refine ⟨?_,?_⟩
   · simp only [reachE] at hr
     simp only [show ((85:Int)=81)=False by simp,show ((85:Int)=84)=False by simp,if_false,if_true] at hr
     by_cases hlt0:findF lib name < 0
     · rw [if_pos hlt0] at hr;omega
     · omega
   · simp [formB] at hf1
     first|exact hf1.1|exact hf1.1.1|exact hf1.2.1|omega
theorem size_nilR {s:ByteArray} (h:s.size=0):s=ByteArray.empty:=by
 cases s with
 | mk d=>
   have:d=#[]:=Array.eq_empty_of_size_eq_zero h
   subst this
   rfl
theorem rdy_plain {lib:List Fn} {n:Nd} {vis:Vis} {env:Env} {ts:List Par} (h:Rdy lib n vis env ts) (h81:n.kind≠81) (h84:n.kind≠84) (h85:n.kind≠85):n.name=ByteArray.empty:=by
 obtain ⟨hf,hc,hag,hts,hsz⟩:=h
 match n,hf with
 | .mk k num name kids,hf=>
   rw [formedN,Bool.and_eq_true] at hf
   have hf1:=hf.1
   show name=ByteArray.empty
   have k81:k≠81:=h81
   have k84:k≠84:=h84
   have k85:k≠85:=h85
   unfold formB at hf1
   by_cases k80:k=80
   · rw [if_pos k80] at hf1
     simp at hf1
     exact hf1.2.1
   · rw [if_neg k80,if_neg k81] at hf1
     by_cases k82:k=82
     · rw [if_pos k82] at hf1
       simp at hf1
       exact hf1.2.2.1
     · rw [if_neg k82,if_neg k84,if_neg k85] at hf1
       by_cases hz:num≠0∨name.size≠0
       · rw [if_pos hz] at hf1;cases hf1
       · simp only [not_or,Decidable.not_not] at hz
         exact size_nilR hz.2
theorem rdy_op {lib:List Fn} {n:Nd} {vis:Vis} {env:Env} {ts:List Par} (h:Rdy lib n vis env ts) (h81:n.kind≠81) (h84:n.kind≠84) (h83:n.kind≠83):
 exprN lib n env ts=⟨(argsN lib (decide (n.kind=85)) n.kids env ts).ts ++ [⟨tname (argsN lib (decide (n.kind=85)) n.kids env ts).ts.length,if n.kind=85 then (fnAt lib (findF lib n.name)).list else opList n.kind⟩],
  (argsN lib (decide (n.kind=85)) n.kids env ts).bs ++ [.mk (tname (argsN lib (decide (n.kind=85)) n.kids env ts).ts.length) (if n.kind=85 then (fnAt lib (findF lib n.name)).list else opList n.kind) n.kind n.num n.name (argsN lib (decide (n.kind=85)) n.kids env ts).args [] []],
  ⟨tname (argsN lib (decide (n.kind=85)) n.kids env ts).ts.length,if n.kind=85 then (fnAt lib (findF lib n.name)).list else opList n.kind⟩,(argsN lib (decide (n.kind=85)) n.kids env ts).env⟩:=by
 have e:=exprN_op lib n.num n.name n.kids env ts h81 h84 h83
 rw [Nd.eta] at e
 rw [e]
 by_cases h85:n.kind=85
 · have:=(rdy_call h h85).2
   simp [h85,this]
 · have:=rdy_plain h h81 h84 h85
   simp [h85,this]
end Go.Proofs.YtjhimhlebbamoaaDoor
/- Where the binds of a normal form store:each at a temporary of its own type. No program in sight. -/
namespace Go.Proofs.YtjhimhlebbamoaaDoor
mutual
def ToOk (lo:Nat) (ts:List Par):Bd→Prop
 | .mk tn list _ _ _ args thn els=>((∃ j,lo≤j∧j < ts.length∧tn=tname j∧(at' ts j).list=list)∧args.length≤10000)∧ToOks lo ts thn∧ToOks lo ts els
def ToOks (lo:Nat) (ts:List Par):List Bd→Prop
 | []=>True
 | b :: r=>ToOk lo ts b∧ToOks lo ts r
end
theorem ToOks.nil (lo:Nat) (ts:List Par):ToOks lo ts []:=by rw [ToOks];trivial
theorem ToOks.append {lo:Nat} {ts:List Par}:∀ {l m:List Bd},ToOks lo ts l→ToOks lo ts m→ToOks lo ts (l ++ m)
 | [],_,_,h=>h
 | b :: l,m,h,h'=>by
   rw [ToOks] at h
   rw [List.cons_append,ToOks]
   exact ⟨h.1,h.2.append h'⟩
theorem ToOks.one {lo:Nat} {ts:List Par} {b:Bd} (h:ToOk lo ts b):ToOks lo ts [b]:=by rw [ToOks];exact ⟨h,.nil _ _⟩
mutual
theorem ToOk.more {lo lo':Nat} {ts us:List Par} (hl:lo'≤lo) (hu:ts.length≤us.length) (h:∀ j,lo≤j→j < ts.length→(at' us j).list=(at' ts j).list):∀ b,ToOk lo ts b→ToOk lo' us b
 | .mk tn list _ _ _ _ thn els,hb=>by
   rw [ToOk] at hb ⊢
   obtain ⟨⟨⟨j,j1,j2,j3,j4⟩,ja⟩,h1,h2⟩:=hb
   exact ⟨⟨⟨j,by omega,by omega,j3,(h j j1 j2).trans j4⟩,ja⟩,ToOks.more hl hu h _ h1,ToOks.more hl hu h _ h2⟩
theorem ToOks.more {lo lo':Nat} {ts us:List Par} (hl:lo'≤lo) (hu:ts.length≤us.length) (h:∀ j,lo≤j→j < ts.length→(at' us j).list=(at' ts j).list):∀ l,ToOks lo ts l→ToOks lo' us l
 | [],_=>.nil _ _
 | b :: r,hb=>by
   rw [ToOks] at hb ⊢
   exact ⟨ToOk.more hl hu h b hb.1,ToOks.more hl hu h r hb.2⟩
end
theorem ToOks.pre {lo lo':Nat} {ts us:List Par} {l:List Bd} (h:ToOks lo ts l) (hl:lo'≤lo) (hp:ts <+:us):ToOks lo' us l:=ToOks.more hl hp.length_le (fun j _ hj=>by rw [pre_at hp hj]) l h
theorem to_var {lo:Nat} {ts:List Par} {j:Nat} {b:Bool} {x:ByteArray} (h1:lo≤j) (h2:j < ts.length) (h3:(at' ts j).list=b):ToOks lo ts [varB (tname j) b x]:=by
 refine ToOks.one ?_
 rw [varB,ToOk]
 exact ⟨⟨⟨j,h1,h2,rfl,h3⟩,by simp⟩,.nil _ _,.nil _ _⟩
theorem at_last {ts:List Par} {p:Par}:at' (ts ++ [p]) ts.length=p:=by simp [at',List.getD_eq_getElem?_getD]
theorem expr_to {lib:List Fn} (hl:PLen lib) (m:Nat):∀ (n:Nd) (vis:Vis) (env:Env) (ts:List Par),sizeN n≤m→Rdy lib n vis env ts→ToOks ts.length (exprN lib n env ts).ts (exprN lib n env ts).bs:=by
 induction m with
 | zero=>intro n vis env ts hm;have:=size_pos n;omega
 | succ m ih=>
   intro n vis env ts hm hr
   by_cases h81:n.kind=81
   · obtain ⟨p,_,he⟩:=rdy_var hr h81
     rw [he];exact .nil _ _
   by_cases h84:n.kind=84
   · obtain ⟨a,b,vis2,X,Y,hk,hX,hY,ra,rb,le1,e1,e2,e3⟩:=rdy_let hl hr h84
     rw [e1,e2]
     have hs0:=size_kid n 0 (by rw [hk];simp)
     have hs1:=size_kid n 1 (by rw [hk];simp)
     rw [hk] at hs0 hs1
     simp only [show at' [a,b] 0=a from rfl,show at' [a,b] 1=b from rfl] at hs0 hs1
     have h1:=ih a _ _ _ (by omega) ra
     have h2:=ih b _ _ _ (by omega) rb
     have p1:=expr_pre lib a env ts
     have p2:=expr_pre lib b (env.put n.name X.par) X.ts
     rw [← hX] at h1 p1
     rw [← hY] at h2 p2
     exact (h1.pre (Nat.le_refl _) p2).append (h2.pre p1.length_le (List.prefix_refl _))
   by_cases h83:n.kind=83
   · obtain ⟨c,a,b,X,Y,Z,hk,hX,hY,hZ,rc,ra,rb,lt1,le1,le2,g1,g2,g3,e1,e2,e3⟩:=rdy_if hl hr h83
     rw [e1,e3]
     have hs0:=size_kid n 0 (by rw [hk];simp)
     have hs1:=size_kid n 1 (by rw [hk];simp)
     have hs2:=size_kid n 2 (by rw [hk];simp)
     rw [hk] at hs0 hs1 hs2
     simp only [show at' [c,a,b] 0=c from rfl,show at' [c,a,b] 1=a from rfl,show at' [c,a,b] 2=b from rfl] at hs0 hs1 hs2
     have h1:=ih c _ _ _ (by omega) rc
     have h2:=ih a _ _ _ (by omega) ra
     have h3:=ih b _ _ _ (by omega) rb
     have p1:=expr_pre lib c env ts
     have p2:=expr_pre lib a env (X.ts ++ [⟨tname X.ts.length,false⟩])
     have p3:=expr_pre lib b env (setTy Y.ts X.ts.length Y.par.list)
     rw [← hX] at h1 p1
     rw [← hY] at h2 p2
     rw [← hZ] at h3 p3
     rw [List.length_append,List.length_singleton] at h2
     rw [setTy_len] at h3
     have q1:X.ts <+:Z.ts:=by
      have q:=setTy_pre ((List.prefix_append X.ts _).trans p2) (Nat.le_refl _) Y.par.list
      exact q.trans p3
     have l13:=p3.length_le
     rw [setTy_len] at l13
     have tZ:(at' Z.ts X.ts.length).list=Y.par.list:=by
      rw [pre_at p3 (by rw [setTy_len];exact lt1),setTy_at lt1]
     have hY':ToOks ts.length Z.ts Y.bs:=ToOks.more (by have:=p1.length_le;omega) l13 (fun j j1 j2=>by
      rw [pre_at p3 (by rw [setTy_len];exact j2)]
      have:¬ X.ts.length=j:=by omega
      simp [setTy,at',List.getD_eq_getElem?_getD,this]) _ h2
     have hlo:=p1.length_le
     have hv:∀ x,ToOks ts.length Z.ts [varB (tname X.ts.length) Y.par.list x]:=fun x=>to_var hlo (by omega) tZ
     refine (h1.pre (Nat.le_refl _) q1).append (ToOks.one ?_)
     rw [ToOk]
     exact ⟨⟨⟨X.ts.length,hlo,by omega,rfl,tZ⟩,by simp⟩,hY'.append (hv _),(h3.pre (by omega) (List.prefix_refl _)).append (hv _)⟩
   rw [rdy_op hr h81 h84 h83]
   have hA:=rdy_args hl hr h81 h84 (decide (n.kind=85))
   have key:∀ q,q≤n.kids.length→ToOks ts.length (argsN lib (decide (n.kind=85)) (n.kids.take q) env ts).ts (argsN lib (decide (n.kind=85)) (n.kids.take q) env ts).bs:=by
    intro q
    induction q with
    | zero=>intro _;rw [List.take_zero,argsN];exact .nil _ _
    | succ q ihq=>
      intro hq
      have hlt:q < n.kids.length:=by omega
      have h0:=ihq (by omega)
      have ha:=hA q (by omega)
      have hrd:=ha.rdy hlt
      have hsk:=size_kid n q hlt
      have hx:=ih (at' n.kids q) _ _ _ (by omega) hrd
      have px:=expr_pre lib (at' n.kids q) env (argsN lib (decide (n.kind=85)) (n.kids.take q) env ts).ts
      have pa:=args_pre lib (decide (n.kind=85)) (n.kids.take q) env ts
      rw [args_take lib _ hlt env ts,argStep,ha.ev]
      generalize hR:argsN lib (decide (n.kind=85)) (n.kids.take q) env ts=R at *
      generalize hX:exprN lib (at' n.kids q) env R.ts=X at *
      have hb:=(h0.pre (Nat.le_refl _) px).append (hx.pre pa.length_le (List.prefix_refl _))
      split
      · refine (hb.pre (Nat.le_refl _) (List.prefix_append _ _)).append (to_var (Nat.le_trans pa.length_le px.length_le) (by simp) (by rw [at_last]))
      · exact hb
   have hk:=key n.kids.length (Nat.le_refl _)
   have pk:=args_pre lib (decide (n.kind=85)) n.kids env ts
   rw [List.take_length] at hk
   refine (hk.pre (Nat.le_refl _) (List.prefix_append _ _)).append (ToOks.one ?_)
   rw [ToOk]
   have hal:=args_len2 lib (decide (n.kind=85)) n.kids env ts
   have hkl:=length_size n.kids
   have hse:=sizeN_eq n
   have hsz:=hr.size
   exact ⟨⟨⟨_,pk.length_le,by simp,rfl,by rw [at_last]⟩,by rw [hal];omega⟩,.nil _ _,.nil _ _⟩
end Go.Proofs.YtjhimhlebbamoaaDoor
/- Words for the reference of layer 38:binds and variables as elements;a box that is written,and what is kept beside it. No function of the program is walked here. -/
namespace Go.Proofs.YtjhimhlebbamoaaDoor
open Go.RowKit
def BdE:Elem Bd where
 size:=8
 C:=fun A w c x=>BdCells A w c x
 stays:=fun hs _ _ h=>BdCells.stays hs h
 congr:=fun h e=>⟨(e 0 (by omega)).trans h.c0,(e 1 (by omega)).trans h.c1,(e 2 (by omega)).trans h.c2,(e 3 (by omega)).trans h.c3,(e 4 (by omega)).trans h.c4,by rw [e 5 (by omega)];exact h.c5,by rw [e 6 (by omega)];exact h.c6,by rw [e 7 (by omega)];exact h.c7,h.ok⟩
 one:=fun h i hi=>by
  match i,hi with
  | 0,_=>rw [h.c0];rfl
  | 1,_=>rw [h.c1];rfl
  | 2,_=>rw [h.c2];rfl
  | 3,_=>rw [h.c3];rfl
  | 4,_=>rw [h.c4];rfl
  | 5,_=>obtain ⟨_,a,c,e⟩:=h.c5.form;rw [e];rfl
  | 6,_=>obtain ⟨_,a,c,e⟩:=h.c6.form;rw [e];rfl
  | 7,_=>obtain ⟨_,a,c,e⟩:=h.c7.form;rw [e];rfl
theorem bds_rows {A:Nat→Prop} {w:World} {v:Value} {l:List Bd}:BdsAt A w v l ↔ RowsAt BdE A w v l:=by
 constructor
 · intro h
   cases h with
   | mk _ _ cs h hf ht he=>exact ⟨cs,h,fun j hj=>by obtain ⟨a0,a1,a2,a3,a4,a5,a6⟩:=hf j hj;exact ⟨a0,a1,a2,a3,a4,a5,ht j hj,he j hj,a6⟩⟩
 · rintro ⟨cs,h,hf⟩
   exact .mk v l cs h (fun j hj=>⟨(hf j hj).c0,(hf j hj).c1,(hf j hj).c2,(hf j hj).c3,(hf j hj).c4,(hf j hj).c5,(hf j hj).ok⟩) (fun j hj=>(hf j hj).c6) (fun j hj=>(hf j hj).c7)
def VarE:Elem (ByteArray × Par) where
 size:=3
 C:=fun _ _ c x=>c 0=.string x.1∧c 1=.string x.2.name∧c 2=.bool x.2.list∧x.1.size≤maxLen∧x.2.name.size≤maxLen
 stays:=fun _ _ _ h=>h
 congr:=fun h e=>⟨(e 0 (by omega)).trans h.1,(e 1 (by omega)).trans h.2.1,(e 2 (by omega)).trans h.2.2.1,h.2.2.2⟩
 one:=fun h i hi=>by
  match i,hi with
  | 0,_=>rw [h.1];rfl
  | 1,_=>rw [h.2.1];rfl
  | 2,_=>rw [h.2.2.1];rfl
def Bx (G:Nat) (W:World) (b:Nat):Prop:=b=G∨∃ v t fz,W.heap[G]?=some (.cells #[v] t fz)∧v.ownBlock=some b
theorem bx_own {G:Nat} {W:World} {v:Value} {t:TypeId} {b:Nat} (hb:W.heap[G]?=some (.cells #[v] t (0,0))) (h:Bx G W b):b=G∨v.ownBlock=some b:=by
 rcases h with h|⟨pv,t',fz,e1,e2⟩
 · exact .inl h
 · rw [hb] at e1
   simp only [Option.some.injEq,Obj.cells.injEq,Array.mk.injEq,List.cons.injEq,and_true] at e1
   obtain ⟨rfl,-,-⟩:=e1
   exact .inr e2
theorem own_bx {G:Nat} {W:World} {v:Value} {t:TypeId} {b:Nat} (hb:W.heap[G]?=some (.cells #[v] t (0,0))) (h:b=G∨v.ownBlock=some b):Bx G W b:=
 h.elim .inl (fun e=>.inr ⟨_,_,_,hb,e⟩)
def KB (n0 hi G:Nat) (W W':World):Prop:=Below n0 W W'∧∀ b,b < hi→¬ Bx G W b→W'.heap[b]?=W.heap[b]?∧¬ Bx G W' b
theorem KB.refl (n0 hi G:Nat) (W:World):KB n0 hi G W W:=⟨Below.refl _ _,fun _ _ h=>⟨rfl,h⟩⟩
theorem KB.trans {n0 hi G:Nat} {a b c:World} (h:KB n0 hi G a b) (k:KB n0 hi G b c):KB n0 hi G a c:=
 ⟨h.1.trans k.1,fun i hi hm=>by
   obtain ⟨e1,m1⟩:=h.2 i hi hm
   obtain ⟨e2,m2⟩:=k.2 i hi m1
   exact ⟨e2.trans e1,m2⟩⟩
theorem KB.less {n0 hi hi' G:Nat} {a b:World} (h:KB n0 hi G a b) (hh:hi'≤hi):KB n0 hi' G a b:=⟨h.1,fun i hi hm=>h.2 i (by omega) hm⟩
theorem KB.step {n0 hi hi' G:Nat} {a b c:World} (h:KB n0 hi G a b) (k:KB n0 hi' G b c) (hh:hi≤hi'):KB n0 hi G a c:=h.trans (k.less hh)
theorem bx_below {G:Nat} {W W':World} (hG:G < W.heap.size) (hb:Below W.heap.size W W') {b:Nat} (h:Bx G W' b):Bx G W b:=by
 rcases h with h|⟨v,t,fz,e1,e2⟩
 · exact .inl h
 · exact .inr ⟨v,t,fz,(hb.block G hG).symm.trans e1,e2⟩
theorem KB.new {n0 G:Nat} {W W':World} (hG:G < W.heap.size) (hn:n0≤W.heap.size) (hb:Below W.heap.size W W'):KB n0 W.heap.size G W W':=
 ⟨hb.mono hn,fun b hlt hm=>⟨hb.block b hlt,fun e=>hm (bx_below hG hb e)⟩⟩
theorem KB.blk {n0 hi G:Nat} {W W':World} (h:KB n0 hi G W W') {b:Nat} {o:Obj} (ho:W.heap[b]?=some o) (hb:b < hi) (hm:¬ Bx G W b):W'.heap[b]?=some o:=(h.2 b hb hm).1.trans ho
theorem KB.stays {n0 hi G:Nat} {W W':World} (h:KB n0 hi G W W') {A:Nat→Prop} (hA:∀ b,A b→b < hi∧¬ Bx G W b):Stays A A W W':=⟨h.1.size,fun b hb ha=>⟨(h.2 b (hA b ha).1 (hA b ha).2).1,ha⟩⟩
theorem row_same {W W':World} {base e size n:Nat} {v:Value} {xs:List Value} (h:W.ownsRow base e size v n xs) (hs:∀ g,v.ownBlock=some g→W'.heap[g]?=W.heap[g]?):W'.ownsRow base e size v n xs:=by
 refine ⟨h.1,?_⟩
 rcases h.2 with h2|⟨g,cap,cur,e1,hbg,hg,hrest⟩
 · exact .inl h2
 · exact .inr ⟨g,cap,cur,e1,hbg,(hs g (by rw [e1];rfl)).trans hg,hrest⟩
def GS (n0 G:Nat) (ts:List Par) (W:World):Prop:=n0≤G∧∃ v,W.heap[G]?=some (.cells #[v] 128 (0,0))∧W.ownsRow n0 101 2 v ts.length (parCells ts)∧v.ownBlock≠some G
theorem GS.glt {n0 G:Nat} {ts:List Par} {W:World} (h:GS n0 G ts W):G < W.heap.size:=by
 obtain ⟨_,v,hb,_⟩:=h;exact (Array.getElem?_eq_some_iff.1 hb).1
theorem GS.lt {n0 G:Nat} {ts:List Par} {W:World} (h:GS n0 G ts W) {b:Nat} (hb:Bx G W b):b < W.heap.size:=by
 have hg:=h.glt
 obtain ⟨_,v,hv,hr,_⟩:=h
 rcases bx_own hv hb with rfl|e
 · exact hg
 · exact (hr.lt b e).2
theorem GS.ge {n0 G:Nat} {ts:List Par} {W:World} (h:GS n0 G ts W) {b:Nat} (hb:Bx G W b):n0≤b:=by
 obtain ⟨h1,v,hv,hr,_⟩:=h
 rcases bx_own hv hb with rfl|e
 · exact h1
 · exact (hr.lt b e).1
theorem GS.new {n0 G:Nat} {ts:List Par} {W W':World} (h:GS n0 G ts W) (hb:Below W.heap.size W W'):GS n0 G ts W':=by
 have hg:=h.glt
 obtain ⟨h1,v,hv,hr,hn⟩:=h
 exact ⟨h1,v,(hb.block G hg).trans hv,row_same hr (fun b e=>hb.block b (hr.lt b e).2),hn⟩
theorem GS.kb {n0 G:Nat} {ts:List Par} {W W':World} (h:GS n0 G ts W) (hb:Below W.heap.size W W'):KB n0 W.heap.size G W W':=KB.new h.glt (by have:=h.1;have:=h.glt;omega) hb
theorem GS.push {n0 G:Nat} {ts:List Par} {W w1:World} (h:GS n0 G ts W) {p:Par} {v v':Value} (hb:W.heap[G]?=some (.cells #[v] 128 (0,0))) (hr0:W.ownsRow n0 101 2 v ts.length (parCells ts)) (hne:v.ownBlock≠some G)
 (hr:w1.ownsRow n0 101 2 v' (ts.length+1) (parCells ts ++ [.string p.name,.bool p.list])) (hg:W.grownBy w1 v.ownBlock) (ho:NewOr W v v'):
 GS n0 G (ts ++ [p]) (w1.setCell ⟨G,0,none⟩ v')∧KB n0 W.heap.size G W (w1.setCell ⟨G,0,none⟩ v'):=by
 have hG:=h.glt
 have hb1:w1.heap[G]?=some (.cells #[v] 128 (0,0)):=(hg.block G hG (fun e=>hne e.symm)).trans hb
 have hb2:(w1.setCell ⟨G,0,none⟩ v').heap[G]?=some (.cells #[v'] 128 (0,0)):=one_setCell hb1
 have hne2:v'.ownBlock≠some G:=fun e=>by
  rcases ho G e with e2|e2
  · exact hne e2
  · omega
 refine ⟨⟨h.1,v',hb2,?_,hne2⟩,((Below.refl n0 W).grown hg (by have:=h.1;omega) (fun k e=>(hr0.lt k e).1)).setCell h.1 _,fun b hlt hm=>?_⟩
 · rw [parCells_append,List.length_append]
   exact ownsRow_setCell_other (a:=⟨G,0,none⟩) hr hne2 _
 · have hbB:b≠G:=fun e=>hm (own_bx hb (.inl e))
   have hbo:v.ownBlock≠some b:=fun e=>hm (own_bx hb (.inr e))
   refine ⟨(Below.heap_setCell w1 ⟨G,0,none⟩ _ b hbB).trans (hg.block b hlt (fun e=>hbo e.symm)),fun hm2=>?_⟩
   rcases bx_own hb2 hm2 with e|e
   · exact hbB e
   · rcases ho b e with e2|e2
     · exact hbo e2
     · omega
theorem GS.flag {n0 G:Nat} {ts:List Par} {W:World} (h:GS n0 G ts W) {g n cap j:Nat} (b:Bool) (hb:W.heap[G]?=some (.cells #[.slice (some ⟨g,0,none⟩) n cap] 128 (0,0))) (hr:W.ownsRow n0 101 2 (.slice (some ⟨g,0,none⟩) n cap) ts.length (parCells ts)) (hne:g≠G) (hn:n=ts.length) (hj:j < ts.length):
 GS n0 G (setTy ts j b) (W.setCell ⟨g,j * 2+1,none⟩ (.bool b))∧KB n0 W.heap.size G W (W.setCell ⟨g,j * 2+1,none⟩ (.bool b)):=by
 subst hn
 have hb2:(W.setCell ⟨g,j * 2+1,none⟩ (.bool b)).heap[G]?=some (.cells #[.slice (some ⟨g,0,none⟩) ts.length cap] 128 (0,0)):=(Below.heap_setCell W ⟨g,j * 2+1,none⟩ _ G (fun e=>hne e.symm)).trans hb
 refine ⟨⟨h.1,_,hb2,?_,fun e=>hne (Option.some.inj e)⟩,(Below.refl n0 W).setCell (hr.lt g rfl).1 _,fun k hlt hm=>?_⟩
 · rw [setTy_len,parCells_set]
   exact row_set hr _ _ (by omega)
 · have hk:k≠g:=fun e=>hm (own_bx hb (.inr (by rw [e];rfl)))
   exact ⟨Below.heap_setCell W ⟨g,j * 2+1,none⟩ _ k hk,fun e=>hm (own_bx hb (bx_own hb2 e))⟩
def DR (lo hi G:Nat) (W:World) (b:Nat):Prop:=lo≤b∧b < hi∧¬ Bx G W b
theorem DR.keep {lo hi n0 G:Nat} {W W':World} (hk:KB n0 hi G W W') {b:Nat} (h:DR lo hi G W b):DR lo hi G W' b:=⟨h.1,h.2.1,(hk.2 b h.2.1 h.2.2).2⟩
variable {α:Type} [Inhabited α]
structure RO (E:Elem α) (e lo hi G:Nat) (W:World) (v:Value) (l:List α):Prop where
 own:RowsOwn E e (DR lo hi G W) lo W v l
 sep:∀ b,v.ownBlock=some b→b < hi∧¬ Bx G W b
theorem RO.nil (E:Elem α) (e lo hi G:Nat) (W:World):RO E e lo hi G W (.slice none 0 0) []:=⟨RowsOwn.nil _ _ _ _ _,fun b h=>by cases h⟩
theorem RO.more {E:Elem α} {e lo hi hi' G:Nat} {W:World} {v:Value} {l:List α} (h:RO E e lo hi G W v l) (hh:hi≤hi'):RO E e lo hi' G W v l:=
 ⟨h.own.mono (fun k a=>⟨a.1,Nat.lt_of_lt_of_le a.2.1 hh,a.2.2⟩),fun b e=>⟨Nat.lt_of_lt_of_le (h.sep b e).1 hh,(h.sep b e).2⟩⟩
theorem RO.keep {E:Elem α} {e lo hi n0 G:Nat} {W W':World} {v:Value} {l:List α} (h:RO E e lo hi G W v l) (hk:KB n0 hi G W W'):RO E e lo hi G W' v l:=by
 obtain ⟨⟨xs,hx,hf⟩,hs⟩:=h
 exact ⟨⟨xs,row_same hx (fun g e=>(hk.2 g (hs g e).1 (hs g e).2).1),fun j hj=>E.stays ⟨hk.1.size,fun b hb a=>⟨(hk.2 b a.1.2.1 a.1.2.2).1,a.1.keep hk,a.2⟩⟩ (hf j hj)⟩,fun b e=>⟨(hs b e).1,(hk.2 b (hs b e).1 (hs b e).2).2⟩⟩
theorem RO.lt {E:Elem α} {e lo hi G:Nat} {W:World} {v:Value} {l:List α} (h:RO E e lo hi G W v l) {b:Nat} (hb:v.ownBlock=some b):lo≤b∧b < W.heap.size:=h.own.lt hb
theorem RO.shut {E:Elem α} {e lo hi G:Nat} {W:World} {v:Value} {l:List α} (h:RO E e lo hi G W v l) (hl:l.length≤maxLen):RowsAt E (DR lo hi G W) W v l:=
 h.own.shut (fun _ a=>a) (fun k e=>⟨(h.lt e).1,(h.sep k e).1,(h.sep k e).2⟩) hl
theorem RO.grown {E:Elem α} {e lo n0 G:Nat} {ts:List Par} {W w1:World} {v v':Value} {l l':List α} (hG:GS n0 G ts W) (hn:n0≤lo) (hlo:lo≤W.heap.size) (h:RO E e lo W.heap.size G W v l) (h1:RowsOwn E e (DR lo W.heap.size G W) lo w1 v' l') (hg:W.grownBy w1 v.ownBlock) (ho:NewOr W v v'):
 RO E e lo w1.heap.size G w1 v' l'∧KB n0 lo G W w1∧GS n0 G ts w1:=by
 have hglt:=hG.glt
 have hsame:∀ b,Bx G W b→w1.heap[b]?=W.heap[b]?:=fun b hb=>hg.block b (hG.lt hb) (fun e=>(h.sep b e.symm).2 hb)
 have hGs:w1.heap[G]?=W.heap[G]?:=hsame G (.inl rfl)
 have hbx:∀ b,Bx G w1 b→Bx G W b:=fun b hb=>by
  rcases hb with hb|⟨u,t,fz,e1,e2⟩
  · exact .inl hb
  · exact .inr ⟨u,t,fz,hGs.symm.trans e1,e2⟩
 refine ⟨⟨h1.mono (fun k a=>⟨a.1,Nat.lt_of_lt_of_le a.2.1 hg.size,fun e=>a.2.2 (hbx k e)⟩),fun b e=>⟨(h1.lt e).2,fun hb=>?_⟩⟩,⟨(Below.refl n0 W).grown hg (by omega) (fun k e=>by have:=(h.lt e).1;omega),fun b hlt hm=>?_⟩,?_⟩
 · have hb2:=hbx b hb
   rcases ho b e with e2|e2
   · exact (h.sep b e2).2 hb2
   · have:=hG.lt hb2;omega
 · exact ⟨hg.block b (by omega) (fun e=>by have:=(h.lt e.symm).1;omega),fun e=>hm (hbx b e)⟩
 · obtain ⟨h1',u,hu,hr,hnu⟩:=hG
   exact ⟨h1',u,hGs.trans hu,row_same hr (fun g e=>hsame g (own_bx hu (.inr e))),hnu⟩
end Go.Proofs.YtjhimhlebbamoaaDoor
/- Walks of the reference of layer 38:decimal numbers,temporaries,names,the index of a function. -/
namespace Go.Proofs.YtjhimhlebbamoaaDoor
open Go.RowKit
theorem findR_any (v:Value) (lib:List Fn) (name:ByteArray) (A:Nat→Prop) (w:World) (hv:FnsAt A w v lib):
 Calls Tryd.prog 69 #[v,.string name] w fun e w'=>e=.returned (.int .i64 (findF lib name))∧Below w.heap.size w w':=by
 obtain ⟨hlen,a,cap,rfl⟩:=hv.form
 unfold maxLen at hlen
 go_enter Tryd.func69,Tryd.ntmps69
 go_wp2
 go_loopw [5] (fun i wr=>∃ k:Nat,k≤lib.length∧i=.int .i64 k∧(∀ j,j < k→(at' lib j).name≠name)∧Below w.heap.size w wr) (fun i _=>lib.length - (intOf i).toNat)
 case atStart=>exact ⟨0,Nat.zero_le _,rfl,fun j hj=>absurd hj (by omega),Below.refl _ _⟩
 case round=>
  obtain ⟨k,hk,rfl,hno,hbl⟩:=hrel
  have HN:=Lib.hid hno
  clear hno
  have hz:=hbl.size
  by_cases hlt:k < lib.length
  · obtain ⟨b,off,cap',pa,pc,ka,kc,he,hb,_,_,c0,c1,c2,c3,c4,c5,c6,hs,hp,hn⟩:=(hv.stays (Stays.of_below hbl)).at hlt
    simp only [Value.slice.injEq] at he
    obtain ⟨rfl,-,rfl⟩:=he
    clear hp hn
    by_cases heq:(at' lib k).name=name
    · have HF:=Lib.hid (show findF lib name=k from by rw [findF,find_step name lib k 0 hlt (fun j hj=>HN.out j hj) heq];omega)
      have he:((at' lib k).name.toList == name.toList)=true:=by rw [heq];simp
      clear heq
      go_wp2
      go_ret
      rw [HF.out]
      exact ⟨rfl,hbl⟩
    · have he:((at' lib k).name.toList == name.toList)=false:=beq_eq_false_iff_ne.2 (fun h=>heq (toList_inj h))
      have HQ:=Lib.hid heq
      clear heq
      go_wp2
      go_roundw
      case rel=>exact ⟨k+1,by omega,by go_num,fun j hj=>(by
       by_cases e:j=k
       · rw [e];exact HQ.out
       · exact HN.out j (by omega)),hbl⟩
      case measure=>simp [intOf];omega
  · go_wp2
    go_ret
    rw [show findF lib name= -1 from find_none name lib 0 (fun j hj=>HN.out j (by omega))]
    exact ⟨rfl,hbl⟩
theorem decDigits_eq (n:Nat):Lib.decDigits n=if n < 10 then [UInt8.ofNat (48+n)] else Lib.decDigits (n / 10) ++ [UInt8.ofNat (48+n % 10)]:=by
 conv=>lhs;rw [Lib.decDigits]
 by_cases h:n < 10
 · rw [dif_pos h,if_pos h]
 · rw [dif_neg h,if_neg h]
def decB (n:Nat):ByteArray:=⟨(Lib.decDigits n).toArray⟩
theorem decDigits_len (m:Nat):∀ n:Nat,n≤m→(Lib.decDigits n).length≤n+1:=by
 induction m using Nat.strongRecOn with
 | _ m ih=>
   intro n hn
   rw [decDigits_eq]
   split
   · simp
   · have:=ih (n / 10) (by omega) (n / 10) (Nat.le_refl _)
     rw [List.length_append,List.length_singleton]
     omega
theorem decB_size (n:Nat):(decB n).size≤n+1:=by
 have:=decDigits_len n n (Nat.le_refl _)
 unfold decB
 simpa [ByteArray.size] using this
theorem decimal_upto (m:Nat):∀ (n:Nat) (w:World),n≤m→n≤1000000→Calls Tryd.prog 86 #[.int .i64 n] w fun e w'=>e=.returned (.string (decB n))∧w'=w:=by
 induction m using Nat.strongRecOn with
 | _ m ih=>
   intro n w hm hmil
   have hr:(n:Int).tmod 10=((n % 10:Nat):Int):=by rw [Int.tmod_eq_emod_of_nonneg (by omega)];omega
   have hq:(n:Int).tdiv 10=((n / 10:Nat):Int):=by rw [Int.tdiv_eq_ediv_of_nonneg (by omega)];omega
   have hd:n % 10 < 10:=Nat.mod_lt _ (by omega)
   have hdd:=Lib.hid (decDigits_eq n)
   have HD:=Lib.hid hd
   by_cases h10:n < 10
   · have hlt:(n:Int) < 10:=by omega
     have hn:n % 10=n:=by omega
     have HE:Hid (decB n=⟨#[UInt8.ofNat (48+n)]⟩):=Lib.hid (by unfold decB;rw [hdd.out,if_pos h10])
     rw [hn] at hr
     clear hn hd hq hm hmil
     rcases (show n=0∨n=1∨n=2∨n=3∨n=4∨n=5∨n=6∨n=7∨n=8∨n=9 from by omega) with rfl|rfl|rfl|rfl|rfl|rfl|rfl|rfl|rfl|rfl
     all_goals
      go_enter Tryd.func86,Tryd.ntmps86
      go_wp2
      go_ret
      exact ⟨by rw [HE.out];kernel_rfl,rfl⟩
   · have hlt:¬ (n:Int) < 10:=by omega
     have HIH:=Lib.hid (ih (n / 10) (by omega) (n / 10) w (Nat.le_refl _) (by omega))
     have HE:Hid (decB n=⟨(Lib.decDigits (n / 10) ++ [UInt8.ofNat (48+n % 10)]).toArray⟩):=Lib.hid (by unfold decB;rw [hdd.out,if_neg h10])
     have hq6:n / 10≤1000000:=by omega
     generalize hdd:n % 10=d at *
     generalize n / 10=q at *
     have hdc:d=0∨d=1∨d=2∨d=3∨d=4∨d=5∨d=6∨d=7∨d=8∨d=9:=by omega
     have hwq:wrap64 (q:Int)=q:=by unfold wrap64;omega
     have hsq:¬ 9223372036854775807 < (decB q).size+1:=by have:=decB_size q;omega
     clear hdd hd hm hmil ih HD h10
     rcases hdc with rfl|rfl|rfl|rfl|rfl|rfl|rfl|rfl|rfl|rfl
     all_goals
      go_enter Tryd.func86,Tryd.ntmps86
      go_wp2_with (go_at_call 86;refine HIH.out.mono ?_;rintro e w1 ⟨rfl,rfl⟩)
      go_ret
      refine ⟨by rw [HE.out];rfl,rfl⟩
theorem two_srcR (w:World) (u v:Value) (e:TypeId):∀ j x,[u,v][j]?=some x→(w.alloc (.cells #[u,v] e)).cell? ((⟨w.heap.size,0,none⟩:Addr).add j)=some x:=by
 intro j x hj
 match j,hj with
 | 0,hj=>simp at hj;subst hj;simp [Addr.add]
 | 1,hj=>simp at hj;subst hj;simp [Addr.add]
theorem newor_alloc {w:World} {o:Obj} {v v':Value} (h:NewOr (w.alloc o) v v'):NewOr w v v':=fun k hk=>(h k hk).imp id (fun h=>by simp at h;omega)
theorem tname_dec (n:Nat):(⟨#[116]⟩:ByteArray) ++ decB n=tname n:=by
 apply ByteArray.ext
 simp [tname,decB]
theorem tempR_any {n0 G:Nat} {ts:List Par} (list:Bool) (W:World) (h:GS n0 G ts W) (hl:ts.length≤100000):
 Calls Tryd.prog 67 #[.pointer (some ⟨G,0,none⟩),.bool list] W fun e W'=>e=.returned (.string (tname ts.length))∧GS n0 G (ts ++ [⟨tname ts.length,list⟩]) W'∧KB n0 W.heap.size G W W':=by
 obtain ⟨hn,v,hb,hr,hne⟩:=id h
 obtain ⟨va,vc,rfl⟩:=row_form hr
 have hgl:=h.glt
 have H:=Lib.hid h
 have HR:=Lib.hid hr
 have HB:=Lib.hid hb
 have HNE:=Lib.hid hne
 have HDC:=Lib.hid (decimal_upto ts.length ts.length W (Nat.le_refl _) (by omega))
 have c0:=cell_blk hb 0 rfl
 have hsq:¬ 9223372036854775807 < 1+(decB ts.length).size:=by have:=decB_size ts.length;omega
 have hsq2:¬ 9223372036854775807 < (decB ts.length).size+1:=by omega
 have HT:=Lib.hid (tname_dec ts.length)
 have hns:n0≤W.heap.size:=by omega
 clear h hr hb hne
 go_enter Tryd.func67,Tryd.ntmps67
 go_wp2_with (first
  | (go_at_call 86;refine HDC.out.mono ?_;rintro e w1 ⟨rfl,hw⟩;subst hw)
  | (at_builtin;rw [HT.out];refine wpl_append TPar rfl (by decide) rfl (.tmp 17) (.tmp 21) (m:=1) (news:=[.string (tname ts.length),.bool list]) rfl rfl rfl (HR.out.alloc _) (.inr ⟨_,_,rfl,two_srcR _ _ _ _⟩) rfl (by simp [Value.oneCell']) (by unfold maxLen;omega) (by omega) (by simp;omega) ?_;intro v' w2 hown hg hno;have hP:=H.out.push (p:=⟨tname ts.length,list⟩) HB.out HR.out HNE.out hown (grown_alloc hg) (newor_alloc hno);have HP:=Lib.hid hP;have hb1:=((grown_alloc hg).block G hgl (fun e=>HNE.out e.symm)).trans HB.out;have c1:=cell_blk hb1 0 rfl;have f1:=unfrozen hb1 0;obtain ⟨a',c',rfl⟩:=row_form hown;clear hP hb1 hown hg hno))
 go_ret
 exact ⟨rfl,HP.out.1,HP.out.2⟩
end Go.Proofs.YtjhimhlebbamoaaDoor
/- Expr of the reference of layer 38:the contract;an expression that names a variable;a variable. -/
namespace Go.Proofs.YtjhimhlebbamoaaDoor
open Go.RowKit
def lkV:List (ByteArray × Par)→ByteArray→Option Par
 | [],_=>none
 | x :: r,s=>match lkV r s with
   | some p=>some p
   | none=>if x.1=s then some x.2 else none
theorem lkV_snoc (x:ByteArray × Par) (s:ByteArray):∀ l,lkV (l ++ [x]) s=if x.1=s then some x.2 else lkV l s
 | []=>by simp [lkV]
 | y :: l=>by
   rw [List.cons_append,lkV,lkV_snoc x s l]
   by_cases h:x.1=s
   · simp [h]
   · simp [h,lkV]
theorem lkV_find:∀ (l:List (ByteArray × Par)) (s:ByteArray) (p:Par),lkV l s=some p→∃ j,j < l.length∧(at' l j).1=s∧(at' l j).2=p∧∀ t,j < t→t < l.length→(at' l t).1≠s
 | [],s,p,h=>by cases h
 | x :: r,s,p,h=>by
   rw [lkV] at h
   cases hr:lkV r s with
   | some q=>
     rw [hr] at h
     obtain rfl:q=p:=by simpa using h
     obtain ⟨j,h1,h2,h3,h4⟩:=lkV_find r s q hr
     refine ⟨j+1,by simpa using h1,by simpa [at'] using h2,by simpa [at'] using h3,fun t ht htl=>?_⟩
     match t,ht,htl with
     | t+1,ht,htl=>
       have:=h4 t (by omega) (by simpa using htl)
       simpa [at'] using this
   | none=>
     rw [hr] at h
     by_cases hx:x.1=s
     · simp only [hx,if_true] at h
       refine ⟨0,by simp,by simpa [at'] using hx,by simpa [at'] using h,fun t ht htl=>?_⟩
       match t,ht,htl with
       | t+1,ht,htl=>
         have:(at' r t).1≠s:=lkV_none r s hr t (by simpa using htl)
         simpa [at'] using this
     · simp [hx] at h
where
 lkV_none:∀ (l:List (ByteArray × Par)) (s:ByteArray),lkV l s=none→∀ t,t < l.length→(at' l t).1≠s
 | [],s,h,t,ht=>by simp at ht
 | x :: r,s,h,t,ht=>by
   rw [lkV] at h
   cases hr:lkV r s with
   | some q=>rw [hr] at h;cases h
   | none=>
     rw [hr] at h
     by_cases hx:x.1=s
     · simp [hx] at h
     · cases t with
       | zero=>simpa [at'] using hx
       | succ t=>
         have:=lkV_none r s hr t (by simpa using ht)
         simpa [at'] using this
structure XIn (lib:List Fn) (n0 G:Nat) (A:Nat→Prop) (lv ev:Value) (el:List (ByteArray × Par)) (env:Env) (ts:List Par) (W:World):Prop where
 gs:GS n0 G ts W
 ap:∀ b,A b→b < W.heap.size∧¬ Bx G W b
 evs:RowsAt VarE A W ev el
 lvs:FnsAt A W lv lib
 lk:∀ s,lkV el s=env s
 el:el.length≤100000
theorem XIn.keep {lib:List Fn} {n0 G:Nat} {A:Nat→Prop} {lv ev:Value} {el:List (ByteArray × Par)} {env:Env} {ts ts':List Par} {W W':World} (h:XIn lib n0 G A lv ev el env ts W) (hk:KB n0 W.heap.size G W W') (hg:GS n0 G ts' W'):XIn lib n0 G A lv ev el env ts' W':=by
 have hs:Stays A A W W':=hk.stays h.ap
 exact ⟨hg,fun b hb=>⟨Nat.lt_of_lt_of_le (h.ap b hb).1 hk.1.size,(hk.2 b (h.ap b hb).1 (h.ap b hb).2).2⟩,h.evs.stays hs,h.lvs.stays hs,h.lk,h.el⟩
def XOut (n0 G:Nat) (W:World) (x:XR) (e:Ending) (W':World):Prop:=∃ a c,e=.returned (.tuple #[.slice a x.bs.length c,.string x.par.name,.bool x.par.list])∧GS n0 G x.ts W'∧KB n0 W.heap.size G W W'∧RO BdE 161 W.heap.size W'.heap.size G W' (.slice a x.bs.length c) x.bs
def XOk8 (lib:List Fn) (n0 G m:Nat):Prop:=∀ (n:Nd) (nv lv ev:Value) (A:Nat→Prop) (W:World) (vis:Vis) (env:Env) (el:List (ByteArray × Par)) (ts:List Par),sizeN n≤m→el.length+sizeN n≤100000→Rdy lib n vis env ts→XIn lib n0 G A lv ev el env ts W→NdAt A W nv n→
 Calls Tryd.prog 52 #[.pointer (some ⟨G,0,none⟩),lv,ev,nv] W (XOut n0 G W (exprN lib n env ts))
theorem rx_var (lib:List Fn) (n0 G:Nat) (n:Nd) (nv lv ev:Value) (A:Nat→Prop) (W:World) (vis:Vis) (env:Env) (el:List (ByteArray × Par)) (ts:List Par) (hk:n.kind=81) (hr:Rdy lib n vis env ts) (hx:XIn lib n0 G A lv ev el env ts W) (hn:NdAt A W nv n):
 Calls Tryd.prog 52 #[.pointer (some ⟨G,0,none⟩),lv,ev,nv] W (XOut n0 G W (exprN lib n env ts)):=by
 obtain ⟨p,hp,he⟩:=rdy_var hr hk
 obtain ⟨j,hj,hj1,hj2,hj3⟩:=lkV_find el n.name p (by rw [hx.lk];exact hp)
 obtain ⟨hok,hlen,ka,kc,rfl,hkk⟩:=hn.open
 obtain ⟨_,ea,ec,rfl⟩:=hx.evs.form
 rw [he]
 have HX:=Lib.hid hx
 have HJ:=Lib.hid hj3
 have hbx:Below W.heap.size W (W.alloc (.cells #[.int .u8 n.kind,.int .i64 n.num,.string n.name,.slice ka n.kids.length kc] 66)):=bel_alloc (Below.refl _ _)
 have HB:=Lib.hid hbx
 have HBX:=Lib.hid (at_new0 W (.cells #[.int .u8 n.kind,.int .i64 n.num,.string n.name,.slice ka n.kids.length kc] 66))
 have k81:(n.kind == 81)=true:=by simp [hk]
 have hel:=hx.el
 clear hn hkk hok hr hx he hp hk hj3 hbx
 go_enter Tryd.func52,Tryd.ntmps52
 go_wp2
 generalize W.alloc (.cells #[.int .u8 n.kind,.int .i64 n.num,.string n.name,.slice ka n.kids.length kc] 66)=W1 at *
 go_loopw [11] (fun i wr=>∃ t:Nat,i=.int .i64 t∧j≤t∧t < el.length∧Below W1.heap.size W1 wr) (fun i _=>(intOf i).toNat)
 case atStart=>exact ⟨el.length - 1,by rw [show ((el.length - 1:Nat):Int)=(el.length:Int) - 1 by omega],by omega,by omega,Below.refl _ _⟩
 case round=>
  obtain ⟨t,rfl,hjt,htl,hbl⟩:=hrel
  obtain ⟨r0,r1,r2,r3⟩:=cells4 (blk_below hbl HBX.out)
  obtain ⟨b,off,cap,cs,hev,hb,hcap,_,hc,hcv⟩:=((HX.out.evs.stays (Stays.of_below HB.out)).stays (Stays.of_below hbl)).at htl
  simp only [Value.slice.injEq] at hev
  obtain ⟨rfl,-,rfl⟩:=hev
  have e0:wr.cell? ⟨b,off+t * 3,none⟩=some (.string (at' el t).1):=(hc 0 (by decide)).trans (by rw [hcv.1])
  have e1:wr.cell? ⟨b,off+t * 3+1,none⟩=some (.string (at' el t).2.name):=(hc 1 (by decide)).trans (by rw [hcv.2.1])
  have e2:wr.cell? ⟨b,off+t * 3+2,none⟩=some (.bool (at' el t).2.list):=(hc 2 (by decide)).trans (by rw [hcv.2.2.1])
  have i1:(0:Int)≤(t:Int):=by omega
  have i2:(t:Int) < (el.length:Int):=by omega
  have HBL:=Lib.hid hbl
  have HCV:=Lib.hid hcv
  clear hc hcv hbl hb
  by_cases heq:t=j
  · subst heq
    have en:((at' el t).1.toList == n.name.toList)=true:=by rw [hj1];simp
    clear hj1 HJ
    go_wp2
    go_quiet (fail)
    go_wp2
    go_quiet (fail)
    go_wp2
    refine bodyPost_ret (results_tmp3 rfl _ _ _) rfl ?_
    exact ⟨none,0,rfl,HX.out.gs.new (below_drewN (below_drewN (bel_step HBL.out HB.out) _) _),HX.out.gs.kb (below_drewN (below_drewN (bel_step HBL.out HB.out) _) _),RO.nil _ _ _ _ _ _⟩
  · have hne:(at' el j).1=n.name:=hj1
    have en:((at' el t).1.toList == n.name.toList)=false:=beq_eq_false_iff_ne.2 (fun h=>HJ.out t (by omega) htl (toList_inj h))
    clear hj1 hne
    go_wp2
    go_quiet (fail)
    go_wp2
    refine ⟨⟨t - 1,by rw [show ((t - 1:Nat):Int)=(t:Int) - 1 by omega],by omega,by omega,below_drewN HBL.out _⟩,by simp [intOf];omega⟩
theorem names_step:∀ (d:Nat) (n:Nd),formedN n=true→sizeN n≤d→namesN d n=(if n.kind=84 then namesN (sizeN (at' n.kids 1)) (at' n.kids 1) else decide (n.kind=81))
 | 0,n,hf,h=>by have:=size_pos n;omega
 | d+1,n,hf,h=>by
   rw [namesN]
   by_cases hk:n.kind=84
   · rw [if_pos hk,if_pos hk]
     have hl:=formed_let hf hk
     have h1:1 < n.kids.length:=by omega
     have hs:=size_kid n 1 h1
     have hf1:=formed_kid hf h1
     rw [names_step d _ hf1 (by omega),names_step (sizeN (at' n.kids 1)) _ hf1 (Nat.le_refl _)]
   · rw [if_neg hk,if_neg hk]
termination_by d=>d
decreasing_by all_goals (first|omega|(have:=size_kid n 1 h1;omega))
theorem namesR_upto (m:Nat):∀ (n:Nd) (v:Value) (A:Nat→Prop) (w:World),sizeN n≤m→formedN n=true→NdAt A w v n→
 Calls Tryd.prog 68 #[v] w fun e w'=>e=.returned (.bool (namesN (sizeN n) n))∧Below w.heap.size w w':=by
 induction m with
 | zero=>intro n v A w hm;have:=size_pos n;omega
 | succ m ih=>
   intro n v A w hm hf hv
   obtain ⟨hok,hlen,ka,kc,rfl,hk⟩:=hv.open
   have hb:=(bel_alloc (Below.refl w.heap.size w):Below w.heap.size w (w.alloc (.cells #[.int .u8 n.kind,.int .i64 n.num,.string n.name,.slice ka n.kids.length kc] 66)))
   have hst:=names_step _ n hf (Nat.le_refl _)
   by_cases h84:n.kind=84
   · rw [if_pos h84] at hst
     have hl:=formed_let hf h84
     have h1:1 < n.kids.length:=by omega
     obtain ⟨b,off,cap,kb,kd,he,hbb,_,_,c0,c1,c2,c3,hnd⟩:=(hk.stays (Stays.of_below hb)).at h1
     simp only [Value.slice.injEq] at he
     obtain ⟨rfl,-,rfl⟩:=he
     have HIH:=Lib.hid (ih (at' n.kids 1) _ _ _ (by have:=size_kid n 1 h1;omega) (formed_kid hf h1) hnd)
     have HST:=Lib.hid hst
     have HB:=Lib.hid hb
     have k84:(n.kind == 84)=true:=by simp [h84]
     rw [hl] at *
     clear ih hv hk hok hnd hst hb h84 hf hm hlen
     go_enter Tryd.func68,Tryd.ntmps68
     go_wp2_with (go_at_call 68;refine HIH.out.mono ?_;rintro e w1 ⟨rfl,hb1⟩)
     go_ret
     rw [HST.out]
     exact ⟨rfl,bel_step hb1 HB.out⟩
   · rw [if_neg h84] at hst
     have k84:(n.kind == 84)=false:=by simp [h84]
     have HST:=Lib.hid hst
     clear ih hv hk hok hst h84 hf hm
     go_enter Tryd.func68,Tryd.ntmps68
     go_wp2
     go_ret
     rw [HST.out]
     exact ⟨by congr 1,hb⟩
end Go.Proofs.YtjhimhlebbamoaaDoor
/- Expr of the reference of layer 38:a bind is appended to a row of the call's own. -/
namespace Go.Proofs.YtjhimhlebbamoaaDoor
open Go.RowKit
theorem TBd8:RowT Tryd.prog 132 161 (.agg #[.string ByteArray.empty,.bool false,.int .u8 0,.int .i64 0,.string ByteArray.empty,.slice none 0 0,.slice none 0 0,.slice none 0 0]) 8 120:=⟨Tryd.underlying132,by kernel_rfl⟩
theorem wpl_bind {ops:Array Oper} {rest:List Oper} {o:Oper} {a:Act} {Q:Exit→Act→World→Prop} (hgd:o.guard=none) (s x:Operand)
 (ho:o.op=.call { callee:=.builtin .append,args:=#[s,x],argTypes:=#[132,132] })
 {n0 G lo:Nat} {ts:List Par} {W:World} {v:Value} {l:List Bd} (hG:GS n0 G ts W) (hn:n0≤lo) (hlo:lo≤W.heap.size) (h:RO BdE 161 lo W.heap.size G W v l)
 {b:Bd} {av tv ev:Value} {D':Nat→Prop} (ha:StrsAt D' W av b.args) (ht:BdsAt D' W tv b.thn) (he:BdsAt D' W ev b.els) (hok:b.Ok1) (hD:∀ k,k < W.heap.size→D' k→DR lo W.heap.size G W k∧v.ownBlock≠some k)
 (hs:a.eval s=v) (hx:a.eval x=.slice (some ⟨W.heap.size,0,none⟩) 1 1) (hl:l.length≤100000)
 (hh:∀ a' c' w1,RO BdE 161 lo w1.heap.size G w1 (.slice a' (l.length+1) c') (l ++ [b])→KB n0 lo G W w1→GS n0 G ts w1→W.heap.size≤w1.heap.size→wpList Tryd.prog ops Q rest (a.put o.dst (.slice a' (l.length+1) c')) w1):
 wpList Tryd.prog ops Q (o :: rest) a (W.alloc (.cells #[.string b.to,.bool b.list,.int .u8 b.op,.int .i64 b.num,.string b.name,av,tv,ev] 161)):=by
 obtain ⟨W2,hW2⟩:∃ W2,W2=W.alloc (.cells #[.string b.to,.bool b.list,.int .u8 b.op,.int .i64 b.num,.string b.name,av,tv,ev] 161):=⟨_,rfl⟩
 have hb2:Below W.heap.size W W2:=by subst hW2;exact bel_alloc (Below.refl _ _)
 have hs2:W2.heap.size=W.heap.size+1:=by subst hW2;simp
 have hbk:W2.heap[W.heap.size]?=some (.cells #[.string b.to,.bool b.list,.int .u8 b.op,.int .i64 b.num,.string b.name,av,tv,ev] 161 (0,0)):=by subst hW2;exact at_new0 _ _
 rw [← hW2]
 have hkb:=hG.kb hb2
 have hG2:=hG.new hb2
 have h2:=(h.keep hkb).more (hi':=W2.heap.size) hb2.size
 have hst:Stays D' (fun k=>D' k∧k < W.heap.size∨k=W.heap.size) W W2:=⟨hb2.size,fun k hk a=>⟨hb2.block k hk,.inl ⟨a,hk⟩⟩⟩
 have hrow:RowsAt BdE (fun k=>D' k∧k < W.heap.size∨k=W.heap.size) W2 (.slice (some ⟨W.heap.size,0,none⟩) 1 1) [b]:=rows_1 hbk (.inr rfl) rfl ⟨rfl,rfl,rfl,rfl,rfl,ha.stays hst,ht.stays hst,he.stays hst,hok⟩
 have hbx:∀ k,Bx G W2 k→Bx G W k:=fun k e=>bx_below hG.glt hb2 e
 refine wpl_rows TBd8 rfl (by decide) hgd s x ho hs hx h2.own hrow (fun k hk hd=>?_) (by unfold maxLen;simp;omega) (by simp;omega) (by omega) ?_
 · rcases hd with ⟨hd,hlt⟩|rfl
   · obtain ⟨⟨d1,d2,d3⟩,d4⟩:=hD k hlt hd
     exact ⟨⟨d1,hk,fun e=>d3 (hbx k e)⟩,d4⟩
   · refine ⟨⟨hlo,hk,fun e=>?_⟩,fun e=>?_⟩
     · have:=hG.lt (hbx _ e);omega
     · have:=(h.sep _ e).1;omega
 · intro a' c' w1 h1 hg hno
   obtain ⟨r1,r2,r3⟩:=RO.grown hG2 hn (by omega) h2 h1 hg hno
   exact hh a' c' w1 r1 ((hkb.less hlo).trans r2) r3 (by have:=hg.size;omega)
theorem row_low {w:World} {base base' e size n:Nat} {v:Value} {xs:List Value} (h:w.ownsRow base e size v n xs) (hb:base'≤base):w.ownsRow base' e size v n xs:=by
 refine ⟨h.1,?_⟩
 rcases h.2 with h2|⟨g,cap,cur,e1,hbg,hrest⟩
 · exact .inl h2
 · exact .inr ⟨g,cap,cur,e1,by omega,hrest⟩
theorem RO.low {α:Type} [Inhabited α] {E:Elem α} {e lo lo' hi G:Nat} {W:World} {v:Value} {l:List α} (h:RO E e lo hi G W v l) (hh:lo'≤lo):RO E e lo' hi G W v l:=by
 obtain ⟨⟨xs,hx,hf⟩,hs⟩:=h
 exact ⟨⟨xs,row_low hx hh,fun j hj=>E.stays ⟨Nat.le_refl _,fun b _ a=>⟨rfl,⟨by have:=a.1.1;omega,a.1.2⟩,a.2⟩⟩ (hf j hj)⟩,hs⟩
structure NB (n:Nd) (A:Nat→Prop) (B q off kc n0 G:Nat) (W1:World):Prop where
 lt:B < W1.heap.size
 nb:¬ Bx G W1 B
 box:W1.heap[B]?=some (.cells #[.int .u8 n.kind,.int .i64 n.num,.string n.name,.slice (some ⟨q,off,none⟩) n.kids.length kc] 66 (0,0))
 kids:KidsAt A W1 (.slice (some ⟨q,off,none⟩) n.kids.length kc) n.kids
theorem NB.cells {n:Nd} {A:Nat→Prop} {B q off kc n0 G:Nat} {W1 w1:World} (h:NB n A B q off kc n0 G W1) (hA:∀ b,A b→b < W1.heap.size∧¬ Bx G W1 b) (hk:KB n0 W1.heap.size G W1 w1):
 w1.cell? ⟨B,0,none⟩=some (.int .u8 n.kind)∧w1.cell? ⟨B,1,none⟩=some (.int .i64 n.num)∧w1.cell? ⟨B,2,none⟩=some (.string n.name)∧w1.cell? ⟨B,3,none⟩=some (.slice (some ⟨q,off,none⟩) n.kids.length kc):=
 cells4 (hk.blk h.box h.lt h.nb)
theorem NB.kid {n:Nd} {A:Nat→Prop} {B q off kc n0 G:Nat} {W1 w1:World} (h:NB n A B q off kc n0 G W1) (hA:∀ b,A b→b < W1.heap.size∧¬ Bx G W1 b) (hk:KB n0 W1.heap.size G W1 w1) {j:Nat} (hj:j < n.kids.length):
 ∃ ka kcj,w1.cell? ⟨q,off+j * 4,none⟩=some (.int .u8 (at' n.kids j).kind)∧w1.cell? ⟨q,off+j * 4+1,none⟩=some (.int .i64 (at' n.kids j).num)∧w1.cell? ⟨q,off+j * 4+2,none⟩=some (.string (at' n.kids j).name)∧w1.cell? ⟨q,off+j * 4+3,none⟩=some (.slice ka (at' n.kids j).kids.length kcj)∧
   NdAt A w1 (.agg #[.int .u8 (at' n.kids j).kind,.int .i64 (at' n.kids j).num,.string (at' n.kids j).name,.slice ka (at' n.kids j).kids.length kcj]) (at' n.kids j):=by
 obtain ⟨b,off',cap,ka,kcj,he,hb,_,_,c0,c1,c2,c3,hnd⟩:=(h.kids.stays (hk.stays hA)).at hj
 simp only [Value.slice.injEq,Option.some.injEq,Addr.mk.injEq,and_true,true_and] at he
 obtain ⟨⟨rfl,rfl⟩,-⟩:=he
 exact ⟨ka,kcj,c0,c1,c2,c3,hnd⟩
theorem XIn.boxed {lib:List Fn} {n0 G:Nat} {A:Nat→Prop} {lv ev:Value} {el:List (ByteArray × Par)} {env:Env} {ts:List Par} {W W1:World} {n:Nd} {ka:Option Addr} {kc:Nat} (hx:XIn lib n0 G A lv ev el env ts W) (hn:NdAt A W (.agg #[.int .u8 n.kind,.int .i64 n.num,.string n.name,.slice ka n.kids.length kc]) n) (hk:0 < n.kids.length)
 (hW:W1=W.alloc (.cells #[.int .u8 n.kind,.int .i64 n.num,.string n.name,.slice ka n.kids.length kc] 66)):
 ∃ q off,ka=some ⟨q,off,none⟩∧XIn lib n0 G A lv ev el env ts W1∧NB n A W.heap.size q off kc n0 G W1∧KB n0 W.heap.size G W W1∧W1.heap.size=W.heap.size+1:=by
 have hb:Below W.heap.size W W1:=by subst hW;exact bel_alloc (Below.refl _ _)
 have hs:W1.heap.size=W.heap.size+1:=by subst hW;simp
 have hbk:W1.heap[W.heap.size]?=some (.cells #[.int .u8 n.kind,.int .i64 n.num,.string n.name,.slice ka n.kids.length kc] 66 (0,0)):=by subst hW;exact at_new0 _ _
 have hkb:=hx.gs.kb hb
 obtain ⟨_,_,ka',kc',he,hkk⟩:=hn.open
 simp only [Value.agg.injEq,Array.mk.injEq,List.cons.injEq,Value.slice.injEq,true_and,and_true] at he
 obtain ⟨rfl,rfl⟩:=he
 obtain ⟨q,off,cap,_,_,he,_⟩:=hkk.at hk
 simp only [Value.slice.injEq] at he
 obtain ⟨rfl,-,rfl⟩:=he
 exact ⟨q,off,rfl,hx.keep hkb (hx.gs.new hb),⟨by omega,fun e=>by have:=hx.gs.lt (bx_below hx.gs.glt hb e);omega,hbk,hkk.stays (hkb.stays hx.ap)⟩,hkb,hs⟩
theorem gname_size {s:ByteArray} (h:GName s):s.size≤20000:=by
 rcases h with h|⟨i,hi,rfl⟩
 · unfold nameB at h
   simp at h
   omega
 · rw [← tname_dec]
   have:=decB_size i
   rw [ByteArray.size_append]
   show 1+(decB i).size≤20000
   omega
theorem okb_var {i:Nat} {b:Bool} {s:ByteArray} (hi:i≤10000) (hs:GName s):(varB (tname i) b s).Ok1:=by
 have h1:=gname_size (gname_t hi)
 refine ⟨?_,?_,?_,?_⟩
 · show (tname i).size≤maxLen;unfold maxLen;omega
 · show (0:Int)≤81∧(81:Int)≤255;omega
 · show In64 0;unfold In64;omega
 · show (0:Nat)≤maxLen;omega
theorem wpl_bind1 {ops:Array Oper} {rest:List Oper} {o:Oper} {a:Act} {Q:Exit→Act→World→Prop} (hgd:o.guard=none) (s x:Operand)
 (ho:o.op=.call { callee:=.builtin .append,args:=#[s,x],argTypes:=#[132,132] })
 {n0 G lo hi:Nat} {ts:List Par} {W:World} {v:Value} {l:List Bd} (hG:GS n0 G ts W) (hn:n0≤lo) (hlo:lo≤W.heap.size) (hhi:hi≤W.heap.size) (h:RO BdE 161 lo hi G W v l)
 {b:Bd} {nm:ByteArray} {tv ev:Value} {D':Nat→Prop} (hb:b.args=[nm]) (hnm:nm.size≤maxLen) (ht:BdsAt D' W tv b.thn) (he:BdsAt D' W ev b.els) (hok:b.Ok1) (hD:∀ k,k < W.heap.size→D' k→DR lo W.heap.size G W k∧v.ownBlock≠some k)
 (hs:a.eval s=v) (hx:a.eval x=.slice (some ⟨W.heap.size+1,0,none⟩) 1 1) (hl:l.length≤100000)
 (hh:∀ a' c' w1,RO BdE 161 lo w1.heap.size G w1 (.slice a' (l.length+1) c') (l ++ [b])→KB n0 lo G W w1→GS n0 G ts w1→W.heap.size≤w1.heap.size→wpList Tryd.prog ops Q rest (a.put o.dst (.slice a' (l.length+1) c')) w1):
 wpList Tryd.prog ops Q (o :: rest) a ((W.alloc (.cells #[.string nm] 9)).alloc (.cells #[.string b.to,.bool b.list,.int .u8 b.op,.int .i64 b.num,.string b.name,.slice (some ⟨W.heap.size,0,none⟩) 1 1,tv,ev] 161)):=by
 obtain ⟨W2,hW2⟩:∃ W2,W2=W.alloc (.cells #[.string nm] 9):=⟨_,rfl⟩
 have hb2:Below W.heap.size W W2:=by subst hW2;exact bel_alloc (Below.refl _ _)
 have hs2:W2.heap.size=W.heap.size+1:=by subst hW2;simp
 have hbk:W2.heap[W.heap.size]?=some (.cells #[.string nm] 9 (0,0)):=by subst hW2;exact at_new0 _ _
 rw [← hW2]
 have hkb:=hG.kb hb2
 have hG2:=hG.new hb2
 have hbx:∀ k,Bx G W2 k→Bx G W k:=fun k e=>bx_below hG.glt hb2 e
 have hst:Stays D' (fun k=>D' k∧k < W.heap.size∨k=W.heap.size) W W2:=⟨hb2.size,fun k hk a=>⟨hb2.block k hk,.inl ⟨a,hk⟩⟩⟩
 have h2:=(h.keep (hkb.less hhi)).more (hi':=W2.heap.size) (by omega)
 refine wpl_bind hgd s x ho hG2 hn (by omega) h2 (b:=b) (D':=fun k=>D' k∧k < W.heap.size∨k=W.heap.size) (by rw [hb];exact strs_rows.2 (rows_1 hbk (.inr rfl) rfl ⟨rfl,hnm⟩)) (ht.stays hst) (he.stays hst) hok (fun k hk hd=>?_) hs (by rw [hs2];exact hx) hl ?_
 · rcases hd with ⟨hd,hlt⟩|rfl
   · obtain ⟨⟨d1,d2,d3⟩,d4⟩:=hD k hlt hd
     exact ⟨⟨d1,hk,fun e=>d3 (hbx k e)⟩,d4⟩
   · refine ⟨⟨hlo,hk,fun e=>?_⟩,fun e=>?_⟩
     · have:=hG.lt (hbx _ e);omega
     · have:=(h.sep _ e).1;omega
 · intro a' c' w1 r1 k1 g1 hsz
   exact hh a' c' w1 r1 ((hkb.less hlo).trans k1) g1 (by omega)
end Go.Proofs.YtjhimhlebbamoaaDoor
/- Expr of the reference of layer 38:a choice. -/
namespace Go.Proofs.YtjhimhlebbamoaaDoor
open Go.RowKit
theorem rx_if (lib:List Fn) (hl:PLen lib) (n0 G m:Nat) (IH:XOk8 lib n0 G m) (n:Nd) (nv lv ev:Value) (A:Nat→Prop) (W:World) (vis:Vis) (env:Env) (el:List (ByteArray × Par)) (ts:List Par) (hm:sizeN n≤m+1) (hel:el.length+sizeN n≤100000) (hk:n.kind=83) (hr:Rdy lib n vis env ts) (hx:XIn lib n0 G A lv ev el env ts W) (hn:NdAt A W nv n):
 Calls Tryd.prog 52 #[.pointer (some ⟨G,0,none⟩),lv,ev,nv] W (XOut n0 G W (exprN lib n env ts)):=by
 obtain ⟨c,a,b,X,Y,Z,hkids,hX,hY,hZ,rc,ra,rb,lt1,le1,le2,gx,gy,gz,ets,epar,ebs⟩:=rdy_if hl hr hk
 obtain ⟨hok,hlen,ka,kc,rfl,hkk⟩:=hn.open
 have h3:n.kids.length=3:=by rw [hkids];rfl
 obtain ⟨W1,hW1⟩:∃ W1,W1=W.alloc (.cells #[.int .u8 n.kind,.int .i64 n.num,.string n.name,.slice ka n.kids.length kc] 66):=⟨_,rfl⟩
 obtain ⟨q,off,rfl,x1,hnb,kb1,hs1⟩:=hx.boxed hn (by omega) hW1
 have e0:at' n.kids 0=c:=by rw [hkids];rfl
 have e1:at' n.kids 1=a:=by rw [hkids];rfl
 have e2:at' n.kids 2=b:=by rw [hkids];rfl
 have hsz:(sizeN c≤m∧el.length+sizeN c≤100000)∧(sizeN a≤m∧el.length+sizeN a≤100000)∧(sizeN b≤m∧el.length+sizeN b≤100000):=by
  have h0:=size_kid n 0 (by omega)
  have h1:=size_kid n 1 (by omega)
  have h2:=size_kid n 2 (by omega)
  rw [e0] at h0
  rw [e1] at h1
  rw [e2] at h2
  omega
 have HX1:=Lib.hid x1
 have HNB:=Lib.hid hnb
 have HKB1:=Lib.hid kb1
 have HR:=Lib.hid (And.intro rc (And.intro ra rb))
 have HE:=Lib.hid (And.intro hX (And.intro hY hZ))
 have HF:=Lib.hid (And.intro ets (And.intro epar ebs))
 have HG:=Lib.hid (And.intro gx (And.intro gy gz))
 have HS:=Lib.hid hsz
 have k81:(n.kind == 81)=false:=by simp [hk]
 have k84:(n.kind == 84)=false:=by simp [hk]
 have k83:(n.kind == 83)=true:=by simp [hk]
 have HC:Hid (∀ w1,KB n0 W1.heap.size G W1 w1→(w1.cell? ⟨W.heap.size,0,none⟩=some (.int .u8 n.kind)∧w1.cell? ⟨W.heap.size,3,none⟩=some (.slice (some ⟨q,off,none⟩) 3 kc))):=Lib.hid (fun w1 h=>by
  obtain ⟨h0,h1,h2,h3'⟩:=hnb.cells x1.ap h
  rw [h3] at h3'
  exact ⟨h0,h3'⟩)
 have HK:Hid (∀ w1,KB n0 W1.heap.size G W1 w1→∀ j x,j < 3→at' n.kids j=x→∃ ka kcj,w1.cell? ⟨q,off+j * 4,none⟩=some (.int .u8 x.kind)∧w1.cell? ⟨q,off+j * 4+1,none⟩=some (.int .i64 x.num)∧w1.cell? ⟨q,off+j * 4+2,none⟩=some (.string x.name)∧w1.cell? ⟨q,off+j * 4+3,none⟩=some (.slice ka x.kids.length kcj)∧
  NdAt A w1 (.agg #[.int .u8 x.kind,.int .i64 x.num,.string x.name,.slice ka x.kids.length kcj]) x):=Lib.hid (fun w1 h j x hj hx=>by subst hx;exact hnb.kid x1.ap h (by omega))
 have HEE:=Lib.hid (And.intro e0 (And.intro e1 e2))
 obtain ⟨z0,z3⟩:=HC.out W1 (KB.refl _ _ _ _)
 obtain ⟨ka0,kc0,y0,y1,y2,y3,hnd0⟩:=HK.out W1 (KB.refl _ _ _ _) 0 c (by omega) e0
 simp only [Nat.zero_mul,Nat.add_zero] at y0 y1 y2 y3
 have HI1:=Lib.hid (IH c _ lv ev A W1 vis env el ts hsz.1.1 hsz.1.2 rc x1 hnd0)
 rw [← hX] at HI1
 rw [h3] at hW1
 clear hn hkk hok hlen hr hx x1 hnb kb1 hel rc ra rb hX hY hZ ets epar ebs gx gy gz hsz e0 e1 e2 hnd0 hk
 rw [h3]
 go_enter Tryd.func52,Tryd.ntmps52
 go_upto_region 14 with fail
 rw [← hW1]
 clear hW1
 go_wp2_with fail
 refine HI1.out.mono ?_
 rintro e W2 ⟨a1,c1,rfl,g2,k2,r2⟩
 clear z0 z3 y0 y1 y2 y3
 have HG2:=Lib.hid g2
 have HK2:=Lib.hid k2
 have HR2:=Lib.hid r2
 have HT:=Lib.hid (tempR_any false W2 g2 (by omega))
 clear g2 k2 r2 HI1
 go_wp2_with fail
 refine HT.out.mono ?_
 rintro e W3 ⟨rfl,g3,k3⟩
 have HG3:=Lib.hid g3
 have HK3:=Lib.hid k3
 obtain ⟨hn0,v3,hb3,hr3,hne3⟩:=g3
 obtain ⟨va3,vc3,rfl⟩:=row_form hr3
 rw [List.length_append,List.length_singleton] at hb3
 have cG:=cell_blk hb3 0 rfl
 have hk13:=HK2.out.step k3 HK2.out.1.size
 obtain ⟨z0,z3⟩:=HC.out W3 hk13
 obtain ⟨ka1,kc1,y0,y1,y2,y3,hnd1⟩:=HK.out W3 hk13 1 a (by omega) HEE.out.2.1
 simp only [Nat.one_mul,Nat.add_assoc,Nat.reduceAdd] at y0 y1 y2 y3
 have HX3:=Lib.hid (HX1.out.keep hk13 HG3.out)
 have HI2:=Lib.hid (IH a _ lv ev A W3 vis env el _ HS.out.2.1.1 HS.out.2.1.2 HR.out.2.1 HX3.out hnd1)
 rw [← HE.out.2.1] at HI2
 have HK13:=Lib.hid hk13
 clear hb3 hr3 hne3 k3 hk13 hnd1 HT
 go_wp2_with fail
 refine HI2.out.mono ?_
 rintro e W4 ⟨a4,c4,rfl,g4,k4,r4⟩
 have HG4:=Lib.hid g4
 have HK4:=Lib.hid k4
 have HR4:=Lib.hid r4
 obtain ⟨-,v4,hb4,hr4,hne4⟩:=g4
 obtain ⟨gb,cap4,cur4,rfl,hcap4,hg4,-,-,-,-,hcl4⟩:=row_cell hr4 (by omega)
 have cG4:=cell_blk hb4 0 rfl
 have cF4:=hcl4 _ _ (parCells_at Y.ts X.ts.length lt1).2
 have fF4:=unfrozen hg4 (X.ts.length * 2+1)
 have hfl:=HG4.out.flag Y.par.list hb4 hr4 (fun e=>hne4 (by rw [e];rfl)) rfl lt1
 have HFL:=Lib.hid hfl
 have i1:(0:Int)≤(X.ts.length:Int):=by omega
 have i2:(X.ts.length:Int) < (Y.ts.length:Int):=by omega
 clear z0 z3 y0 y1 y2 y3 cG hb4 hr4 hne4 hcap4 hg4 hcl4 hfl HI2 k4 r4
 go_upto_region 19 with fail
 obtain ⟨W5,hW5⟩:∃ W5,W5=W4.setCell ⟨gb,X.ts.length * 2+1,none⟩ (.bool Y.par.list):=⟨_,rfl⟩
 rw [← hW5] at HFL ⊢
 obtain ⟨g5,k5⟩:=HFL.out
 have h45:=k5.1.size
 have h34:=HK4.out.1.size
 have h23:=HK3.out.1.size
 have h12:=HK2.out.1.size
 have HG5:=Lib.hid g5
 have HK5:=Lib.hid k5
 have r5:=HR4.out.keep k5
 have HR5:=Lib.hid r5
 have hn3:n0≤W3.heap.size:=by have:=HG3.out.1;have:=HG3.out.glt;omega
 have hYl:Y.bs.length≤20000:=by
  have h:=expr_len lib a env (X.ts ++ [⟨tname X.ts.length,false⟩])
  have h2:=HR.out.2.1.size
  rw [← HE.out.2.1] at h
  omega
 clear cG4 cF4 fF4 g5 k5 r5 HFL hW5
 go_upto_region 20 with (at_builtin;refine wpl_bind1 rfl (.tmp 149) (.tmp 155) rfl HG5.out hn3 (by omega) (by omega) HR5.out (b:=varB (tname X.ts.length) Y.par.list Y.par.name) (D':=fun _=>False) rfl (by have:=gname_size HG.out.2.1;unfold maxLen;omega) (BdsAt.nil _) (BdsAt.nil _) (okb_var le2 HG.out.2.1) (fun _ _ h=>h.elim) rfl rfl (by omega) ?_;intro a7 c7 w7 r7 k7 g7 hs57;have HR7:=Lib.hid r7;have HK7:=Lib.hid k7;have HG7:=Lib.hid g7;clear r7 k7 g7)
 have k37:=(HK4.out.step HK5.out h34).trans HK7.out
 have HK37:=Lib.hid k37
 have hk17:=HK13.out.step k37 (by omega)
 have HX7:=Lib.hid (HX3.out.keep k37 HG7.out)
 obtain ⟨z0,z3⟩:=HC.out w7 hk17
 obtain ⟨ka2,kc2,y0,y1,y2,y3,hnd2⟩:=HK.out w7 hk17 2 b (by omega) HEE.out.2.2
 simp only [Nat.reduceMul,Nat.add_assoc,Nat.reduceAdd] at y0 y1 y2 y3
 have HI3:=Lib.hid (IH b _ lv ev A w7 vis env el _ HS.out.2.2.1 HS.out.2.2.2 HR.out.2.2 HX7.out hnd2)
 rw [← HE.out.2.2] at HI3
 have hn7:n0≤w7.heap.size:=by omega
 clear k37 hk17 hnd2
 go_wp2_with fail
 refine HI3.out.mono ?_
 rintro e W8 ⟨a8,c8,rfl,g8,k8,r8⟩
 have HG8:=Lib.hid g8
 have HK8:=Lib.hid k8
 have HR8:=Lib.hid r8
 have h78:=k8.1.size
 have hZl:Z.bs.length≤20000:=by
  have h:=expr_len lib b env (setTy Y.ts X.ts.length Y.par.list)
  have h2:=HR.out.2.2.size
  rw [← HE.out.2.2] at h
  omega
 have hXl:X.bs.length≤20000:=by
  have h:=expr_len lib c env ts
  have h2:=HR.out.1.size
  rw [← HE.out.1] at h
  omega
 clear z0 z3 y0 y1 y2 y3 g8 k8 r8 HI3
 go_upto_region 22 with (at_builtin;refine wpl_bind1 rfl (.tmp 169) (.tmp 175) rfl HG8.out hn7 h78 (Nat.le_refl _) HR8.out (b:=varB (tname X.ts.length) Y.par.list Z.par.name) (D':=fun _=>False) rfl (by have:=gname_size HG.out.2.2;unfold maxLen;omega) (BdsAt.nil _) (BdsAt.nil _) (okb_var le2 HG.out.2.2) (fun _ _ h=>h.elim) rfl rfl (by omega) ?_;intro a9 c9 w9 r9 k9 g9 hs89;have HR9:=Lib.hid r9;have HK9:=Lib.hid k9;have HG9:=Lib.hid g9;clear r9 k9 g9)
 have k79:=HK8.out.trans HK9.out
 have k29:=(HK3.out.step HK37.out h23).step k79 (by omega)
 have HKF:=Lib.hid ((HKB1.out.step HK13.out (by omega)).step (HK37.out.step k79 (by omega)) (by omega))
 have HR2':=Lib.hid (HR2.out.keep k29)
 have ht:=bds_rows.2 (((HR7.out.keep k79).low (lo':=W2.heap.size) (by omega)).more (hi':=w9.heap.size) (by omega) |>.shut (by unfold maxLen;simp;omega))
 have he:=bds_rows.2 ((HR9.out.low (lo':=W2.heap.size) (by omega)).shut (by unfold maxLen;simp;omega))
 have HTT:=Lib.hid ht
 have HEL:=Lib.hid he
 have hn1:n0≤W1.heap.size:=by have:=HX1.out.gs.1;have:=HX1.out.gs.glt;omega
 have hok:Hid ((Bd.mk (tname X.ts.length) Y.par.list 83 0 ByteArray.empty [X.par.name] (Y.bs ++ [varB (tname X.ts.length) Y.par.list Y.par.name]) (Z.bs ++ [varB (tname X.ts.length) Y.par.list Z.par.name])).Ok1):=Lib.hid (by
  have h1:=gname_size (gname_t le2)
  refine ⟨?_,?_,?_,?_⟩
  · show (tname X.ts.length).size≤maxLen;unfold maxLen;omega
  · show (0:Int)≤83∧(83:Int)≤255;omega
  · show In64 0;unfold In64;omega
  · show (0:Nat)≤maxLen;omega)
 clear k79 k29 ht he
 go_wp2_with (at_builtin;refine wpl_bind1 rfl (.tmp 177) (.tmp 185) rfl HG9.out hn1 (by omega) (by omega) HR2'.out (b:=.mk (tname X.ts.length) Y.par.list 83 0 ByteArray.empty [X.par.name] (Y.bs ++ [varB (tname X.ts.length) Y.par.list Y.par.name]) (Z.bs ++ [varB (tname X.ts.length) Y.par.list Z.par.name])) (D':=DR W2.heap.size w9.heap.size G w9) rfl (by have:=gname_size HG.out.1;unfold maxLen;omega) HTT.out HEL.out hok.out (fun k hk d=>⟨⟨by have:=d.1;omega,hk,d.2.2⟩,fun e=>by have:=(HR2'.out.sep k e).1;have:=d.1;omega⟩) rfl rfl (by omega) ?_;intro a12 c12 w12 r12 k12 g12 hs;have HR12:=Lib.hid r12;have HK12:=Lib.hid k12;have HG12:=Lib.hid g12;clear r12 k12 g12)
 refine bodyPost_ret (results_tmp3 rfl _ _ _) rfl ?_
 unfold XOut
 rw [HF.out.1,HF.out.2.1,HF.out.2.2,List.length_append,List.length_singleton]
 exact ⟨_,_,rfl,HG12.out,HKF.out.step HK12.out (by omega),HR12.out.low (by omega)⟩
end Go.Proofs.YtjhimhlebbamoaaDoor
/- Two rows of the call's own beside each other:binds,and names. -/
namespace Go.Proofs.YtjhimhlebbamoaaDoor
open Go.RowKit
structure RP (lo G:Nat) (W:World) (v:Value) (l:List Bd) (u:Value) (m:List ByteArray):Prop where
 own:RowsOwn BdE 161 (fun b=>DR lo W.heap.size G W b∧u.ownBlock≠some b) lo W v l
 sep:∀ b,v.ownBlock=some b→b < W.heap.size∧¬ Bx G W b
 au:RowsOwn StrE 9 (fun _=>True) lo W u m
 sepu:∀ b,u.ownBlock=some b→b < W.heap.size∧¬ Bx G W b∧v.ownBlock≠some b
theorem RP.nil (lo G:Nat) (W:World):RP lo G W (.slice none 0 0) [] (.slice none 0 0) []:=⟨RowsOwn.nil _ _ _ _ _,fun b h=>(by cases h),RowsOwn.nil _ _ _ _ _,fun b h=>(by cases h)⟩
theorem RP.forms {lo G:Nat} {W:World} {v u:Value} {l:List Bd} {m:List ByteArray} (h:RP lo G W v l u m):(∃ a c,v=.slice a l.length c)∧∃ a c,u=.slice a m.length c:=⟨h.own.form,h.au.form⟩
theorem RP.keep {lo n0 G:Nat} {W W':World} {v u:Value} {l:List Bd} {m:List ByteArray} (h:RP lo G W v l u m) (hk:KB n0 W.heap.size G W W'):RP lo G W' v l u m:=by
 obtain ⟨⟨xs,hx,hf⟩,hs,⟨ys,hy,hfy⟩,hsu⟩:=h
 refine ⟨⟨xs,row_same hx (fun g e=>(hk.2 g (hs g e).1 (hs g e).2).1),fun j hj=>BdE.stays ⟨hk.1.size,fun b hb a=>⟨(hk.2 b hb a.1.1.2.2).1,⟨⟨a.1.1.1,Nat.lt_of_lt_of_le hb hk.1.size,(hk.2 b hb a.1.1.2.2).2⟩,a.1.2⟩,a.2⟩⟩ (hf j hj)⟩,
  fun b e=>⟨Nat.lt_of_lt_of_le (hs b e).1 hk.1.size,(hk.2 b (hs b e).1 (hs b e).2).2⟩,
  ⟨ys,row_same hy (fun g e=>(hk.2 g (hsu g e).1 (hsu g e).2.1).1),fun j hj=>hfy j hj⟩,
  fun b e=>⟨Nat.lt_of_lt_of_le (hsu b e).1 hk.1.size,(hk.2 b (hsu b e).1 (hsu b e).2.1).2,(hsu b e).2.2⟩⟩
theorem gs_grown {n0 G lo:Nat} {ts:List Par} {W w1:World} {row:Option Nat} (hG:GS n0 G ts W) (hn:n0≤lo) (hlo:lo≤W.heap.size) (hrow:∀ b,row=some b→lo≤b∧¬ Bx G W b) (hg:W.grownBy w1 row):
 (∀ b,Bx G w1 b→Bx G W b)∧KB n0 lo G W w1∧GS n0 G ts w1:=by
 have hsame:∀ b,Bx G W b→w1.heap[b]?=W.heap[b]?:=fun b hb=>hg.block b (hG.lt hb) (fun e=>(hrow b e.symm).2 hb)
 have hGs:w1.heap[G]?=W.heap[G]?:=hsame G (.inl rfl)
 have hbx:∀ b,Bx G w1 b→Bx G W b:=fun b hb=>by
  rcases hb with hb|⟨u,t,fz,e1,e2⟩
  · exact .inl hb
  · exact .inr ⟨u,t,fz,hGs.symm.trans e1,e2⟩
 refine ⟨hbx,⟨(Below.refl n0 W).grown hg (by omega) (fun k e=>by have:=(hrow k e).1;omega),fun b hlt hm=>⟨hg.block b (by omega) (fun e=>by have:=(hrow b e.symm).1;omega),fun e=>hm (hbx b e)⟩⟩,?_⟩
 obtain ⟨h1',u,hu,hr,hnu⟩:=hG
 exact ⟨h1',u,hGs.trans hu,row_same hr (fun g e=>hsame g (own_bx hu (.inr e))),hnu⟩
theorem RP.grown {lo n0 G:Nat} {ts:List Par} {W w1:World} {v v' u:Value} {l l':List Bd} {m:List ByteArray} (hG:GS n0 G ts W) (hn:n0≤lo) (hlo:lo≤W.heap.size) (h:RP lo G W v l u m)
 (h1:RowsOwn BdE 161 (fun b=>DR lo W.heap.size G W b∧u.ownBlock≠some b) lo w1 v' l') (hg:W.grownBy w1 v.ownBlock) (ho:NewOr W v v'):RP lo G w1 v' l' u m∧KB n0 lo G W w1∧GS n0 G ts w1:=by
 obtain ⟨hbx,hk,hgs⟩:=gs_grown hG hn hlo (fun b e=>⟨(h.own.lt e).1,(h.sep b e).2⟩) hg
 refine ⟨⟨h1.mono (fun k a=>⟨⟨a.1.1,Nat.lt_of_lt_of_le a.1.2.1 hg.size,fun e=>a.1.2.2 (hbx k e)⟩,a.2⟩),fun b e=>⟨(h1.lt e).2,fun hb=>?_⟩,?_,fun b e=>⟨Nat.lt_of_lt_of_le (h.sepu b e).1 hg.size,fun hb=>(h.sepu b e).2.1 (hbx b hb),fun e2=>?_⟩⟩,hk,hgs⟩
 · rcases ho b e with e2|e2
   · exact (h.sep b e2).2 (hbx b hb)
   · have:=hG.lt (hbx b hb);omega
 · obtain ⟨ys,hy,hfy⟩:=h.au
   exact ⟨ys,row_same hy (fun g e=>hg.block g (h.sepu g e).1 (fun e2=>(h.sepu g e).2.2 e2.symm)),fun j hj=>hfy j hj⟩
 · rcases ho b e2 with e3|e3
   · exact (h.sepu b e).2.2 e3
   · have:=(h.sepu b e).1;omega
theorem RP.grownS {lo n0 G:Nat} {ts:List Par} {W w1:World} {v u u':Value} {l:List Bd} {m m':List ByteArray} (hG:GS n0 G ts W) (hn:n0≤lo) (hlo:lo≤W.heap.size) (h:RP lo G W v l u m)
 (h1:RowsOwn StrE 9 (fun _=>True) lo w1 u' m') (hg:W.grownBy w1 u.ownBlock) (ho:NewOr W u u'):RP lo G w1 v l u' m'∧KB n0 lo G W w1∧GS n0 G ts w1:=by
 obtain ⟨hbx,hk,hgs⟩:=gs_grown hG hn hlo (fun b e=>⟨(h.au.lt e).1,(h.sepu b e).2.1⟩) hg
 have hv:∀ b,v.ownBlock=some b→w1.heap[b]?=W.heap[b]?:=fun b e=>hg.block b (h.sep b e).1 (fun e2=>(h.sepu b e2.symm).2.2 e)
 refine ⟨⟨?_,fun b e=>⟨Nat.lt_of_lt_of_le (h.sep b e).1 hg.size,fun hb=>(h.sep b e).2 (hbx b hb)⟩,h1,fun b e=>⟨(h1.lt e).2,fun hb=>?_,fun e2=>?_⟩⟩,hk,hgs⟩
 · obtain ⟨xs,hx,hf⟩:=h.own
   refine ⟨xs,row_same hx hv,fun j hj=>BdE.stays ⟨hg.size,fun b hb a=>⟨hg.block b hb (fun e=>a.1.2 e.symm),⟨⟨a.1.1.1,Nat.lt_of_lt_of_le hb hg.size,fun e=>a.1.1.2.2 (hbx b e)⟩,fun e=>?_⟩,a.2⟩⟩ (hf j hj)⟩
   rcases ho b e with e2|e2
   · exact a.1.2 e2
   · omega
 · rcases ho b e with e2|e2
   · exact (h.sepu b e2).2.1 (hbx b hb)
   · have:=hG.lt (hbx b hb);omega
 · rcases ho b e with e3|e3
   · exact (h.sepu b e3).2.2 e2
   · have:=(h.sep b e2).1;omega
theorem wpl_rp {ops:Array Oper} {rest:List Oper} {o:Oper} {a:Act} {Q:Exit→Act→World→Prop} (hgd:o.guard=none) (s x:Operand)
 (ho:o.op=.call { callee:=.builtin .append,args:=#[s,x],argTypes:=#[132,132] })
 {n0 G lo:Nat} {ts:List Par} {W:World} {v u y:Value} {l my:List Bd} {m:List ByteArray} {D':Nat→Prop} (hG:GS n0 G ts W) (hn:n0≤lo) (hlo:lo≤W.heap.size) (h:RP lo G W v l u m)
 (hy:RowsAt BdE D' W y my) (hD:∀ k,k < W.heap.size→D' k→(DR lo W.heap.size G W k∧u.ownBlock≠some k)∧v.ownBlock≠some k) (hs:a.eval s=v) (hx:a.eval x=y) (hl:l.length+my.length≤100000)
 (hh:∀ a' c' w1,RP lo G w1 (.slice a' (l.length+my.length) c') (l ++ my) u m→KB n0 lo G W w1→GS n0 G ts w1→W.heap.size≤w1.heap.size→wpList Tryd.prog ops Q rest (a.put o.dst (.slice a' (l.length+my.length) c')) w1):
 wpList Tryd.prog ops Q (o :: rest) a W:=by
 refine wpl_rows TBd8 rfl (by decide) hgd s x ho hs hx h.own hy hD (by unfold maxLen;omega) (by omega) hlo ?_
 intro a' c' w1 h1 hg hno
 obtain ⟨r1,r2,r3⟩:=RP.grown hG hn hlo h h1 hg hno
 exact hh a' c' w1 r1 r2 r3 hg.size
theorem wpl_rp1 {ops:Array Oper} {rest:List Oper} {o:Oper} {a:Act} {Q:Exit→Act→World→Prop} (hgd:o.guard=none) (s x:Operand)
 (ho:o.op=.call { callee:=.builtin .append,args:=#[s,x],argTypes:=#[132,132] })
 {n0 G lo:Nat} {ts:List Par} {W:World} {v u:Value} {l:List Bd} {m:List ByteArray} (hG:GS n0 G ts W) (hn:n0≤lo) (hlo:lo≤W.heap.size) (h:RP lo G W v l u m)
 {tn nm:ByteArray} {li:Bool} (hnm:nm.size≤maxLen) (hok:(varB tn li nm).Ok1) (hs:a.eval s=v) (hx:a.eval x=.slice (some ⟨W.heap.size+1,0,none⟩) 1 1) (hl:l.length+1≤100000)
 (hh:∀ a' c' w1,RP lo G w1 (.slice a' (l.length+1) c') (l ++ [varB tn li nm]) u m→KB n0 lo G W w1→GS n0 G ts w1→W.heap.size≤w1.heap.size→wpList Tryd.prog ops Q rest (a.put o.dst (.slice a' (l.length+1) c')) w1):
 wpList Tryd.prog ops Q (o :: rest) a ((W.alloc (.cells #[.string nm] 9)).alloc (.cells #[.string tn,.bool li,.int .u8 81,.int .i64 0,.string ⟨#[]⟩,.slice (some ⟨W.heap.size,0,none⟩) 1 1,.slice none 0 0,.slice none 0 0] 161)):=by
 obtain ⟨W2,hW2⟩:∃ W2,W2=W.alloc (.cells #[.string nm] 9):=⟨_,rfl⟩
 obtain ⟨W3,hW3⟩:∃ W3,W3=W2.alloc (.cells #[.string tn,.bool li,.int .u8 81,.int .i64 0,.string ⟨#[]⟩,.slice (some ⟨W.heap.size,0,none⟩) 1 1,.slice none 0 0,.slice none 0 0] 161):=⟨_,rfl⟩
 have hb2:Below W.heap.size W W2:=by subst hW2;exact bel_alloc (Below.refl _ _)
 have hs2:W2.heap.size=W.heap.size+1:=by subst hW2;simp
 have hs3:W3.heap.size=W.heap.size+1+1:=by rw [hW3];simp [hs2]
 have hb3:Below W.heap.size W W3:=by rw [hW3];exact bel_alloc hb2
 have hbk3:W3.heap[W.heap.size]?=some (.cells #[.string nm] 9 (0,0)):=by rw [hW3,hW2];exact blk_alloc (at_new0 _ _)
 have hbk4:W3.heap[W.heap.size+1]?=some (.cells #[.string tn,.bool li,.int .u8 81,.int .i64 0,.string ⟨#[]⟩,.slice (some ⟨W.heap.size,0,none⟩) 1 1,.slice none 0 0,.slice none 0 0] 161 (0,0)):=by rw [hW3,← hs2];exact at_new0 _ _
 rw [← hW2,← hW3]
 have hkb:=hG.kb hb3
 have hbx:∀ k,Bx G W3 k→Bx G W k:=fun k e=>bx_below hG.glt hb3 e
 refine wpl_rp hgd s x ho (hG.new hb3) hn (by omega) (h.keep hkb) (my:=[varB tn li nm]) (D':=fun k=>k=W.heap.size∨k=W.heap.size+1)
  (rows_1 hbk4 (.inr rfl) rfl ⟨rfl,rfl,rfl,rfl,rfl,strs_rows.2 (rows_1 hbk3 (.inl rfl) rfl ⟨rfl,hnm⟩),BdsAt.nil _,BdsAt.nil _,hok⟩) (fun k hk hd=>?_) hs hx (by simpa using hl) ?_
 · have hge:W.heap.size≤k:=by rcases hd with rfl|rfl <;> omega
   exact ⟨⟨⟨by omega,hk,fun e=>by have:=hG.lt (hbx k e);omega⟩,fun e=>by have:=(h.sepu k e).1;omega⟩,fun e=>by have:=(h.sep k e).1;omega⟩
 · intro a' c' w1 r1 k1 g1 hsz
   exact hh a' c' w1 r1 ((hkb.less hlo).trans k1) g1 (by omega)
theorem TStr8:RowT Tryd.prog 23 9 (.string ByteArray.empty) 1 16:=⟨Tryd.underlying23,by kernel_rfl⟩
theorem wpl_rps {ops:Array Oper} {rest:List Oper} {o:Oper} {a:Act} {Q:Exit→Act→World→Prop} (hgd:o.guard=none) (s x:Operand)
 (ho:o.op=.call { callee:=.builtin .append,args:=#[s,x],argTypes:=#[23,23] })
 {n0 G lo:Nat} {ts:List Par} {W:World} {v u:Value} {l:List Bd} {m:List ByteArray} (hG:GS n0 G ts W) (hn:n0≤lo) (hlo:lo≤W.heap.size) (h:RP lo G W v l u m)
 {nm:ByteArray} (hnm:nm.size≤maxLen) (hs:a.eval s=u) (hx:a.eval x=.slice (some ⟨W.heap.size,0,none⟩) 1 1) (hl:m.length+1≤100000)
 (hh:∀ a' c' w1,RP lo G w1 v l (.slice a' (m.length+1) c') (m ++ [nm])→KB n0 lo G W w1→GS n0 G ts w1→W.heap.size≤w1.heap.size→wpList Tryd.prog ops Q rest (a.put o.dst (.slice a' (m.length+1) c')) w1):
 wpList Tryd.prog ops Q (o :: rest) a (W.alloc (.cells #[.string nm] 9)):=by
 obtain ⟨W2,hW2⟩:∃ W2,W2=W.alloc (.cells #[.string nm] 9):=⟨_,rfl⟩
 have hb2:Below W.heap.size W W2:=by subst hW2;exact bel_alloc (Below.refl _ _)
 have hs2:W2.heap.size=W.heap.size+1:=by subst hW2;simp
 have hbk:W2.heap[W.heap.size]?=some (.cells #[.string nm] 9 (0,0)):=by subst hW2;exact at_new0 _ _
 rw [← hW2]
 have hkb:=hG.kb hb2
 have h2:=h.keep hkb
 refine wpl_rows TStr8 rfl (by decide) hgd s x ho hs hx h2.au (m:=[nm]) (D':=fun k=>k=W.heap.size) (rows_1 hbk rfl rfl ⟨rfl,hnm⟩) (fun b hb hd=>⟨trivial,fun e=>by have:=(h.sepu b e).1;omega⟩) (by unfold maxLen;simp;omega) (by simp;omega) (by omega) ?_
 · intro a' c' w1 h1 hg hno
   obtain ⟨r1,r2,r3⟩:=RP.grownS (hG.new hb2) hn (by omega) h2 h1 hg hno
   exact hh a' c' w1 r1 ((hkb.less hlo).trans r2) r3 (by have:=hg.size;omega)
end Go.Proofs.YtjhimhlebbamoaaDoor
