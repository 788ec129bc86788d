/- Contracts and plain lemmas (PSem, PSem2, PRef, PTo, PTy): no statement of the seat is proved here. -/
import Derived.Test.YtpobmoegmdhbpaaGreatDoorXq16
import Derived.Test.YtpobmoegmdhbpaaGreatDoorXq04
/- Evaluation of functions and of their normal forms:no program in sight. -/
set_option linter.unusedSimpArgs false
set_option linter.unusedVariables false
set_option linter.unusedSectionVars false
namespace Go.Proofs.YtpobmoegmdhbpaaGreatDoor
def noVl:Vl:=⟨false,0,[]⟩
inductive Tr where
 | mk (f:Int) (args:List Vl) (res:Vl) (calls:List Tr)
instance:Inhabited Tr:=⟨.mk 0 [] noVl []⟩
def OldT (N:Nat) (s:ByteArray):Prop:=∀ i,N≤i→s≠tname i
theorem OldT.mono {N M:Nat} {s:ByteArray} (h:OldT N s) (hm:N≤M):OldT M s:=fun i hi=>h i (by omega)
theorem zfI {s:ByteArray} (h:nameB s=true) (N:Nat):OldT N s:=by
 intro i hi e
 subst e
 unfold nameB at h
 simp only [Bool.and_eq_true] at h
 have hl:=h.2.2.2.1
 unfold lowerB at hl
 have hne:=zkc i
 have hr:=zgG i
 cases hd:Lib.decDigits i with
 | nil=>exact hne hd
 | cons c r=>
   have h2:=hr c (by rw [hd];exact List.mem_cons_self ..)
   have h3:=List.all_eq_true.1 hl c (by simp [tname,hd])
   simp [UInt8.le_iff_toNat_le] at h3
   omega
end Go.Proofs.YtpobmoegmdhbpaaGreatDoor
/- The normal form computes what the function computes,with the same calls:no program in sight. -/
namespace Go.Proofs.YtpobmoegmdhbpaaGreatDoor
theorem zcx {lib:List Fn} {name:ByteArray} {vis:Vis}:∀ (l:List Nd) (j:Nat) (types:List Bool),(checkL lib false name l j types vis).2=0→(checkL lib false name l j types vis).1=types ++ l.map (fun n=>(checkN lib n vis).1)
 | [],j,types,h=>by rw [checkL];simp
 | n :: r,j,types,h=>by
   obtain ⟨c1,c2,c3⟩:=zaB h
   rw [c3,zcx r _ _ c2]
   simp
end Go.Proofs.YtpobmoegmdhbpaaGreatDoor
/- What the reference of layer 38 relies on:valid expressions,part by part. No program in sight. -/
namespace Go.Proofs.YtpobmoegmdhbpaaGreatDoor
structure Rdy (lib:List Fn) (n:Nd) (vis:Vis) (env:Env) (ts:List Par):Prop where
 form:formedN n=true
 check:(checkN lib n vis).2=0
 agree:Agree vis env
 tn:TNamed ts
 size:ts.length+2 * sizeN n≤10000
def PLen (lib:List Fn):Prop:=∀ i,i < lib.length→(at' lib i).params.length≤8
theorem Rdy.good {lib:List Fn} (hl:PLen lib) {n:Nd} {vis:Vis} {env:Env} {ts:List Par} (h:Rdy lib n vis env ts):GoodX lib env (checkN lib n vis).1 (exprN lib n env ts):=
 zbh lib hl n vis env ts h.form h.check h.agree h.tn h.size
theorem znD {lib:List Fn} {n:Nd} {vis:Vis} {env:Env} {ts:List Par} (h:Rdy lib n vis env ts) (hk:n.kind=81):∃ p,env n.name=some p∧exprN lib n env ts=⟨ts,[],p,env⟩:=by
 obtain ⟨hf,hc,hag,hts,hsz⟩:=h
 match n,hk,hf,hc with
 | .mk k num name kids,hk,hf,hc=>
   obtain rfl:k=81:=hk
   rw [formedN,Bool.and_eq_true] at hf
   have hkl:kids.length=0:=by
    have hf1:=hf.1
    simp [formB] at hf1;simp [hf1.2]
   obtain ⟨b,hv,hty⟩:=zgP hc hkl
   have ha:=hag name
   cases he:env name with
   | none=>rw [he] at ha;rw [hv] at ha;cases ha
   | some p=>exact ⟨p,he,by rw [zgY,he];rfl⟩
theorem znY {lib:List Fn} (hl:PLen lib) {n:Nd} {vis:Vis} {env:Env} {ts:List Par} (h:Rdy lib n vis env ts) (hk:n.kind=84):
 ∃ a b vis2 X Y,n.kids=[a,b]∧X=exprN lib a env ts∧Y=exprN lib b (env.put n.name X.par) X.ts∧Rdy lib a vis env ts∧Rdy lib b vis2 (env.put n.name X.par) X.ts∧X.ts.length+1≤ts.length+2 * sizeN a∧
   (exprN lib n env ts).ts=Y.ts∧(exprN lib n env ts).bs=X.bs ++ Y.bs∧(exprN lib n env ts).par=Y.par:=by
 obtain ⟨hf,hc,hag,hts,hsz⟩:=h
 match n,hk,hf,hc,hsz with
 | .mk k num name kids,hk,hf,hc,hsz=>
   obtain rfl:k=84:=hk
   rw [formedN,Bool.and_eq_true] at hf
   obtain ⟨hf1,hf2⟩:=hf
   obtain ⟨hr,hcl,hres,hty⟩:=zbj (by decide) hc
   have hk2:kids.length=2:=by simp [formB] at hf1;exact hf1.2.2
   match kids,hk2 with
   | [a,b],_=>
     simp only [decide_true] at hcl hres
     obtain ⟨c1,c2,c3⟩:=zaB hcl
     obtain ⟨d1,d2,d3⟩:=zaB c2
     simp only [true_and,Nat.zero_ne_one,if_false,List.nil_append,Nat.zero_add,if_true,List.getD_cons_zero] at c1 d1
     rw [formedL,formedL,Bool.and_eq_true,Bool.and_eq_true] at hf2
     rw [sizeN,sizeL,sizeL,sizeL] at hsz
     have ga:=zbh lib hl a vis env ts hf2.1 c1 hag hts (by omega)
     have lena:=zap lib a env ts
     have hag2:Agree (vis.put name (checkN lib a vis).1) (env.put name (exprN lib a env ts).par):=by
      rw [← ga.list];exact hag.put name _ ga.name
     refine ⟨a,b,_,_,_,rfl,rfl,rfl,⟨hf2.1,c1,hag,hts,by omega⟩,⟨hf2.2.1,d1,hag2,ga.ts,by omega⟩,by omega,?_,?_,?_⟩
     · rw [zdr];simp only [ga.env];rfl
     · rw [zdr];simp only [ga.env];rfl
     · rw [zdr];simp only [ga.env];rfl
theorem zgD {ts us:List Par} (h:ts <+:us) {i:Nat} (hi:i < ts.length):at' us i=at' ts i:=by
 obtain ⟨r,rfl⟩:=h
 exact at_append_lt' hi
where
 at_append_lt' {l m:List Par} {j:Nat} (h:j < l.length):at' (l ++ m) j=at' l j:=by simp [at',List.getD_eq_getElem?_getD,List.getElem?_append_left h]
theorem zeQ {ts us:List Par} (h:ts <+:us) {i:Nat} (hi:ts.length≤i) (b:Bool):ts <+:setTy us i b:=by
 obtain ⟨r,rfl⟩:=h
 unfold setTy
 rw [List.set_append_right _ _ hi]
 exact List.prefix_append _ _
mutual
theorem zaY (lib:List Fn):∀ (n:Nd) (env:Env) (ts:List Par),ts <+:(exprN lib n env ts).ts
 | .mk k num name kids,env,ts=>by
   unfold exprN
   split
   · exact List.prefix_refl _
   · split
     · split
       · rename_i a b
         exact (zaY lib a env ts).trans (zaY lib b _ _)
       · exact List.prefix_refl _
     · split
       · split
         · rename_i c a b
           have hc:=zaY lib c env ts
           have ha:=zaY lib a (exprN lib c env ts).env ((exprN lib c env ts).ts ++ [⟨tname (exprN lib c env ts).ts.length,false⟩])
           have h1:=zeQ (hc.trans ((List.prefix_append _ _).trans ha)) hc.length_le (exprN lib a (exprN lib c env ts).env ((exprN lib c env ts).ts ++ [⟨tname (exprN lib c env ts).ts.length,false⟩])).par.list
           exact zeQ (h1.trans (zaY lib b _ _)) hc.length_le _
         · exact List.prefix_refl _
       · exact (zdk lib (decide (k=85)) kids env ts).trans (List.prefix_append _ _)
theorem zdk (lib:List Fn) (call:Bool):∀ (l:List Nd) (env:Env) (ts:List Par),ts <+:(argsN lib call l env ts).ts
 | [],env,ts=>by rw [argsN];exact List.prefix_refl _
 | n :: r,env,ts=>by
   rw [argsN]
   have hn:=zaY lib n env ts
   split
   · exact (hn.trans (List.prefix_append _ _)).trans (zdk lib call r _ _)
   · exact hn.trans (zdk lib call r _ _)
end
theorem zjp {ts:List Par} {i:Nat} {b:Bool} (hi:i < ts.length) (hb:(at' ts i).list=b):setTy ts i b=ts:=by
 subst hb
 unfold setTy
 rw [zax hi]
 exact List.set_getElem_self hi
theorem zoy {lib:List Fn} (hl:PLen lib) {n:Nd} {vis:Vis} {env:Env} {ts:List Par} (h:Rdy lib n vis env ts) (hk:n.kind=83):
 ∃ c a b X Y Z,n.kids=[c,a,b]∧X=exprN lib c env ts∧Y=exprN lib a env (X.ts ++ [⟨tname X.ts.length,false⟩])∧Z=exprN lib b env (setTy Y.ts X.ts.length Y.par.list)∧
   Rdy lib c vis env ts∧Rdy lib a vis env (X.ts ++ [⟨tname X.ts.length,false⟩])∧Rdy lib b vis env (setTy Y.ts X.ts.length Y.par.list)∧X.ts.length < Y.ts.length∧Y.ts.length≤10000∧X.ts.length≤10000∧
   GName X.par.name∧GName Y.par.name∧GName Z.par.name∧
   (exprN lib n env ts).ts=Z.ts∧(exprN lib n env ts).par=⟨tname X.ts.length,Y.par.list⟩∧
   (exprN lib n env ts).bs=X.bs ++ [.mk (tname X.ts.length) Y.par.list 83 0 ByteArray.empty [X.par.name] (Y.bs ++ [varB (tname X.ts.length) Y.par.list Y.par.name]) (Z.bs ++ [varB (tname X.ts.length) Y.par.list Z.par.name])]:=by
 obtain ⟨hf,hc,hag,hts,hsz⟩:=h
 match n,hk,hf,hc,hsz with
 | .mk k num name kids,hk,hf,hc,hsz=>
   obtain rfl:k=83:=hk
   rw [formedN,Bool.and_eq_true] at hf
   obtain ⟨hf1,hf2⟩:=hf
   obtain ⟨hr,hcl,hres,hty⟩:=zbj (by decide) hc
   have hk3:kids.length=3:=by
    rw [formB] at hf1;simp at hf1;exact hf1.2
   match kids,hk3 with
   | [c,a,b],_=>
     simp only [show decide ((83:Int)=84)=false from rfl] at hcl hres
     obtain ⟨c1,c2,c3⟩:=zaB hcl
     rw [c3] at hres
     obtain ⟨d1,d2,d3⟩:=zaB c2
     rw [d3] at hres
     obtain ⟨e1,e2,e3⟩:=zaB d2
     rw [e3] at hres
     simp only [Bool.false_eq_true,false_and,if_false,List.nil_append,Nat.zero_add,List.cons_append] at c1 d1 e1 hres
     rw [formedL,formedL,formedL,Bool.and_eq_true,Bool.and_eq_true,Bool.and_eq_true] at hf2
     rw [sizeN,sizeL,sizeL,sizeL,sizeL] at hsz
     obtain ⟨r1,r2⟩:=zbW hres
     have gc:=zbh lib hl c vis env ts hf2.1 c1 hag hts (by omega)
     have lenc:=zap lib c env ts
     have ra:Rdy lib a vis env ((exprN lib c env ts).ts ++ [⟨tname (exprN lib c env ts).ts.length,false⟩]):=⟨hf2.2.1,d1,hag,gc.ts.snoc false,by simp only [List.length_append,List.length_singleton];omega⟩
     have ga:=ra.good hl
     have lena:=zap lib a env ((exprN lib c env ts).ts ++ [⟨tname (exprN lib c env ts).ts.length,false⟩])
     simp only [List.length_append,List.length_singleton] at lena
     have rb:Rdy lib b vis env (setTy (exprN lib a env ((exprN lib c env ts).ts ++ [⟨tname (exprN lib c env ts).ts.length,false⟩])).ts (exprN lib c env ts).ts.length (exprN lib a env ((exprN lib c env ts).ts ++ [⟨tname (exprN lib c env ts).ts.length,false⟩])).par.list):=
      ⟨hf2.2.2.1,e1,hag,ga.ts.set _ _,by rw [zat];omega⟩
     have gb:=rb.good hl
     have lenb:=zap lib b env (setTy (exprN lib a env ((exprN lib c env ts).ts ++ [⟨tname (exprN lib c env ts).ts.length,false⟩])).ts (exprN lib c env ts).ts.length (exprN lib a env ((exprN lib c env ts).ts ++ [⟨tname (exprN lib c env ts).ts.length,false⟩])).par.list)
     rw [zat] at lenb
     have hpre:=zaY lib b env (setTy (exprN lib a env ((exprN lib c env ts).ts ++ [⟨tname (exprN lib c env ts).ts.length,false⟩])).ts (exprN lib c env ts).ts.length (exprN lib a env ((exprN lib c env ts).ts ++ [⟨tname (exprN lib c env ts).ts.length,false⟩])).par.list)
     have hpa:=zaY lib a env ((exprN lib c env ts).ts ++ [⟨tname (exprN lib c env ts).ts.length,false⟩])
     have hrc:Rdy lib c vis env ts:=⟨hf2.1,c1,hag,hts,by omega⟩
     have heq:=zir lib num name c a b env ts
     simp only [gc.env,ga.env] at heq
     generalize hX:exprN lib c env ts=X at *
     generalize hY:exprN lib a env (X.ts ++ [⟨tname X.ts.length,false⟩])=Y at *
     generalize hT:setTy Y.ts X.ts.length Y.par.list=T1 at *
     generalize hZ:exprN lib b env T1=Z at *
     have hYl:X.ts.length < Y.ts.length:=by omega
     have hZl:X.ts.length < Z.ts.length:=by omega
     have a1:at' T1 X.ts.length=⟨tname X.ts.length,Y.par.list⟩:=by
      have h2:at' Y.ts X.ts.length=⟨tname X.ts.length,false⟩:=by
       rw [zgD hpa (by simp)]
       simp [at',List.getD_eq_getElem?_getD]
      rw [← hT,zfw hYl,h2]
     have a2:at' Z.ts X.ts.length=⟨tname X.ts.length,Y.par.list⟩:=by
      rw [zgD hpre (by rw [← hT,zat];exact hYl),a1]
     have hzl:Z.par.list=Y.par.list:=by
      rw [gb.list,ga.list]
      simp only [checkL,wantT] at r1
      simp at r1
      exact r1.2
     have hts2:setTy Z.ts X.ts.length Z.par.list=Z.ts:=zjp hZl (by rw [a2,hzl])
     rw [hts2,a1,a2] at heq
     refine ⟨c,a,b,X,Y,Z,rfl,hX.symm,hY.symm,by rw [← hZ,← hT],hrc,ra,by rw [hT];exact rb,hYl,by omega,by omega,gc.name,ga.name,gb.name,?_,?_,?_⟩
     · rw [heq]
     · rw [heq]
     · rw [heq]
theorem zgn {lib:List Fn} {name:ByteArray}:∀ (l:List Nd) (j:Nat) (types:List Bool) (vis:Vis),(checkL lib false name l j types vis).2=0→∀ q,q < l.length→(checkN lib (at' l q) vis).2=0
 | [],j,types,vis,h,q,hq=>by simp at hq
 | n :: r,j,types,vis,h,q,hq=>by
   obtain ⟨c1,c2,_⟩:=zaB h
   simp only [Bool.false_eq_true,false_and,if_false] at c1
   cases q with
   | zero=>exact c1
   | succ q=>
     have:=zgn r (j+1) _ vis c2 q (by simpa using hq)
     simpa [at'] using this
structure ArgQ (lib:List Fn) (call:Bool) (n:Nd) (vis:Vis) (env:Env) (ts:List Par) (q:Nat):Prop where
 ev:(argsN lib call (n.kids.take q) env ts).env=env
 tn:TNamed (argsN lib call (n.kids.take q) env ts).ts
 len:(argsN lib call (n.kids.take q) env ts).ts.length+2 * sizeL (n.kids.drop q)+2≤10000
 args:∀ a ∈ (argsN lib call (n.kids.take q) env ts).args,GName a
 rdy:q < n.kids.length→Rdy lib (at' n.kids q) vis env (argsN lib call (n.kids.take q) env ts).ts
theorem zmr {lib:List Fn} (hl:PLen lib) {n:Nd} {vis:Vis} {env:Env} {ts:List Par} (h:Rdy lib n vis env ts) (h81:n.kind≠81) (h84:n.kind≠84) (call:Bool):∀ q,q≤n.kids.length→ArgQ lib call n vis env ts q:=by
 obtain ⟨hf,hc,hag,hts,hsz⟩:=h
 obtain ⟨hr,hcl,hres,hty⟩:=zbj (k:=n.kind) (num:=n.num) (name:=n.name) (kids:=n.kids) h81 (by rw [Nd.eta];exact hc)
 rw [show decide (n.kind=84)=false by simp [h84]] at hcl
 have hck:=zgn _ _ _ _ hcl
 have hse:=zbd n
 have key:∀ q,q < n.kids.length→2 * sizeN (at' n.kids q)+2 * sizeL (n.kids.drop (q+1))=2 * sizeL (n.kids.drop q):=fun q hq=>by
  rw [List.drop_eq_getElem_cons hq,sizeL,zax hq];omega
 intro q
 induction q with
 | zero=>
   intro _
   have e:argsN lib call (n.kids.take 0) env ts=⟨ts,[],[],env⟩:=by rw [List.take_zero,argsN]
   refine ⟨by rw [e],by rw [e];exact hts,by rw [e,List.drop_zero];show ts.length+2 * sizeL n.kids+2≤10000;omega,by rw [e];intro a ha;simp at ha,fun hq=>?_⟩
   rw [e]
   have:=key 0 hq
   rw [List.drop_zero] at this
   exact ⟨zaz hf hq,hck 0 hq,hag,hts,by show ts.length+2 * sizeN (at' n.kids 0)≤10000;omega⟩
 | succ q ih=>
   intro hq
   have hlt:q < n.kids.length:=by omega
   obtain ⟨i1,i2,i3,i4,i5⟩:=ih (by omega)
   have hrd:=i5 hlt
   have hg:=hrd.good hl
   have hk:=key q hlt
   have hle:=zap lib (at' n.kids q) env (argsN lib call (n.kids.take q) env ts).ts
   have e:=zdq lib call hlt env ts
   rw [argStep,i1] at e
   generalize hR:argsN lib call (n.kids.take q) env ts=R at *
   generalize hX:exprN lib (at' n.kids q) env R.ts=X at *
   have fin:∀ (T:List Par) (B:List Bd) (a:ByteArray),argsN lib call (n.kids.take (q+1)) env ts=⟨T,B,R.args ++ [a],X.env⟩→TNamed T→T.length≤R.ts.length+2 * sizeN (at' n.kids q)→GName a→ArgQ lib call n vis env ts (q+1):=fun T B a he hT hTl ha=>by
    refine ⟨by rw [he];exact hg.env,by rw [he];exact hT,by rw [he];show T.length+2 * sizeL (n.kids.drop (q+1))+2≤10000;omega,?_,fun hq2=>?_⟩
    · rw [he]
      intro b hb
      rcases List.mem_append.1 hb with hb|hb
      · exact i4 b hb
      · rw [List.mem_singleton.1 hb];exact ha
    · rw [he]
      have hk2:=key (q+1) hq2
      exact ⟨zaz hf hq2,hck _ hq2,hag,hT,by show T.length+2 * sizeN (at' n.kids (q+1))≤10000;omega⟩
   split at e
   · refine fin _ _ _ e (hg.ts.snoc _) (by simp only [List.length_append,List.length_singleton];omega) (zcj (by omega))
   · refine fin _ _ _ e hg.ts (by omega) hg.name
theorem zmT {lib:List Fn} {n:Nd} {vis:Vis} {env:Env} {ts:List Par} (h:Rdy lib n vis env ts) (hk:n.kind=85):0≤findF lib n.name∧n.num=0:=by
 obtain ⟨hf,hc,hag,hts,hsz⟩:=h
 match n,hk,hf,hc,hsz with
 | .mk k num name kids,hk,hf,hc,hsz=>
   obtain rfl:k=85:=hk
   obtain ⟨hr,-,-,-⟩:=zbj (by decide) hc
   rw [formedN,Bool.and_eq_true] at hf
   have hf1:=hf.1
   show 0≤findF lib name∧num=0
   refine ⟨?_,?_⟩
   · simp only [reachE] at hr
     simp only [show ((85:Int)=81)=False by simp,show ((85:Int)=84)=False by simp,if_false,if_true] at hr
     by_cases hlt0:findF lib name < 0
     · rw [if_pos hlt0] at hr;omega
     · omega
   · simp [formB] at hf1
     first|exact hf1.1|exact hf1.1.1|exact hf1.2.1|omega
theorem zle {s:ByteArray} (h:s.size=0):s=ByteArray.empty:=by
 cases s with
 | mk d=>
   have:d=#[]:=Array.eq_empty_of_size_eq_zero h
   subst this
   rfl
theorem zlF {lib:List Fn} {n:Nd} {vis:Vis} {env:Env} {ts:List Par} (h:Rdy lib n vis env ts) (h81:n.kind≠81) (h84:n.kind≠84) (h85:n.kind≠85):n.name=ByteArray.empty:=by
 obtain ⟨hf,hc,hag,hts,hsz⟩:=h
 match n,hf with
 | .mk k num name kids,hf=>
   rw [formedN,Bool.and_eq_true] at hf
   have hf1:=hf.1
   show name=ByteArray.empty
   have k81:k≠81:=h81
   have k84:k≠84:=h84
   have k85:k≠85:=h85
   unfold formB at hf1
   by_cases k80:k=80
   · rw [if_pos k80] at hf1
     simp at hf1
     exact hf1.2.1
   · rw [if_neg k80,if_neg k81] at hf1
     by_cases k82:k=82
     · rw [if_pos k82] at hf1
       simp at hf1
       exact hf1.2.2.1
     · rw [if_neg k82,if_neg k84,if_neg k85] at hf1
       by_cases hz:num≠0∨name.size≠0
       · rw [if_pos hz] at hf1;cases hf1
       · simp only [not_or,Decidable.not_not] at hz
         exact zle hz.2
theorem zoE {lib:List Fn} {n:Nd} {vis:Vis} {env:Env} {ts:List Par} (h:Rdy lib n vis env ts) (h81:n.kind≠81) (h84:n.kind≠84) (h83:n.kind≠83):
 exprN lib n env ts=⟨(argsN lib (decide (n.kind=85)) n.kids env ts).ts ++ [⟨tname (argsN lib (decide (n.kind=85)) n.kids env ts).ts.length,if n.kind=85 then (fnAt lib (findF lib n.name)).list else opList n.kind⟩],
  (argsN lib (decide (n.kind=85)) n.kids env ts).bs ++ [.mk (tname (argsN lib (decide (n.kind=85)) n.kids env ts).ts.length) (if n.kind=85 then (fnAt lib (findF lib n.name)).list else opList n.kind) n.kind n.num n.name (argsN lib (decide (n.kind=85)) n.kids env ts).args [] []],
  ⟨tname (argsN lib (decide (n.kind=85)) n.kids env ts).ts.length,if n.kind=85 then (fnAt lib (findF lib n.name)).list else opList n.kind⟩,(argsN lib (decide (n.kind=85)) n.kids env ts).env⟩:=by
 have e:=ziB lib n.num n.name n.kids env ts h81 h84 h83
 rw [Nd.eta] at e
 rw [e]
 by_cases h85:n.kind=85
 · have:=(zmT h h85).2
   simp [h85,this]
 · have:=zlF h h81 h84 h85
   simp [h85,this]
end Go.Proofs.YtpobmoegmdhbpaaGreatDoor
/- Where the binds of a normal form store:each at a temporary of its own type. No program in sight. -/
namespace Go.Proofs.YtpobmoegmdhbpaaGreatDoor
theorem zkK {ts:List Par} {p:Par}:at' (ts ++ [p]) ts.length=p:=by simp [at',List.getD_eq_getElem?_getD]
end Go.Proofs.YtpobmoegmdhbpaaGreatDoor
/- The types of the operands of a normal form's binds. No program in sight. -/
namespace Go.Proofs.YtpobmoegmdhbpaaGreatDoor
mutual
def TyB (lib:List Fn) (T:ByteArray→Bool→Prop):Bd→Prop
 | .mk tn list op num name args thn els=>(T tn list∧(∀ a ∈ args,a≠tn)∧(op=80∧list=false∨op=81∧T (at' args 0) list∨op=82∧list=false∧T (at' args 0) false∧T (at' args 1) false∨op=83∧T (at' args 0) false∨
    op=85∧list=(fnAt lib (findF lib name)).list∧args.length=(fnAt lib (findF lib name)).params.length∧args.Nodup∧(∀ i,i < args.length→T (at' args i) (at' (fnAt lib (findF lib name)).params i).list)∨op=86∧list=true∨
    op=87∧list=true∧T (at' args 0) false∧T (at' args 1) true∨op=88∧list=false∧T (at' args 0) true∨op=89∧list=true∧T (at' args 0) true∨op=90∧list=false∧T (at' args 0) true))∧TyBs lib T thn∧TyBs lib T els
def TyBs (lib:List Fn) (T:ByteArray→Bool→Prop):List Bd→Prop
 | []=>True
 | b :: r=>TyB lib T b∧TyBs lib T r
end
theorem TyBs.nil (lib:List Fn) (T:ByteArray→Bool→Prop):TyBs lib T []:=by rw [TyBs];trivial
theorem TyBs.append {lib:List Fn} {T:ByteArray→Bool→Prop}:∀ {l m:List Bd},TyBs lib T l→TyBs lib T m→TyBs lib T (l ++ m)
 | [],_,_,h=>h
 | b :: l,m,h,h'=>by
   rw [TyBs] at h
   rw [List.cons_append,TyBs]
   exact ⟨h.1,h.2.append h'⟩
theorem TyBs.one {lib:List Fn} {T:ByteArray→Bool→Prop} {b:Bd} (h:TyB lib T b):TyBs lib T [b]:=by rw [TyBs];exact ⟨h,.nil _ _⟩
mutual
theorem TyB.more {lib:List Fn} {T T':ByteArray→Bool→Prop} (h:∀ s b,T s b→T' s b):∀ b,TyB lib T b→TyB lib T' b
 | .mk tn list op num name args thn els,hb=>by
   rw [TyB] at hb ⊢
   obtain ⟨⟨h1,h2,h3⟩,h4,h5⟩:=hb
   refine ⟨⟨h _ _ h1,h2,?_⟩,TyBs.more h _ h4,TyBs.more h _ h5⟩
   rcases h3 with h3|⟨a,b⟩|⟨a,b,c,d⟩|⟨a,b⟩|⟨a,b,c,d,e⟩|h3|⟨a,b,c,d⟩|⟨a,b,c⟩|⟨a,b,c⟩|⟨a,b,c⟩
   · exact .inl h3
   · exact .inr (.inl ⟨a,h _ _ b⟩)
   · exact .inr (.inr (.inl ⟨a,b,h _ _ c,h _ _ d⟩))
   · exact .inr (.inr (.inr (.inl ⟨a,h _ _ b⟩)))
   · exact .inr (.inr (.inr (.inr (.inl ⟨a,b,c,d,fun i hi=>h _ _ (e i hi)⟩))))
   · exact .inr (.inr (.inr (.inr (.inr (.inl h3)))))
   · exact .inr (.inr (.inr (.inr (.inr (.inr (.inl ⟨a,b,h _ _ c,h _ _ d⟩))))))
   · exact .inr (.inr (.inr (.inr (.inr (.inr (.inr (.inl ⟨a,b,h _ _ c⟩)))))))
   · exact .inr (.inr (.inr (.inr (.inr (.inr (.inr (.inr (.inl ⟨a,b,h _ _ c⟩))))))))
   · exact .inr (.inr (.inr (.inr (.inr (.inr (.inr (.inr (.inr ⟨a,b,h _ _ c⟩))))))))
theorem TyBs.more {lib:List Fn} {T T':ByteArray→Bool→Prop} (h:∀ s b,T s b→T' s b):∀ l,TyBs lib T l→TyBs lib T' l
 | [],_=>.nil _ _
 | b :: r,hb=>by
   rw [TyBs] at hb ⊢
   exact ⟨TyB.more h b hb.1,TyBs.more h r hb.2⟩
end
def ExtT (T:ByteArray→Bool→Prop) (lo:Nat) (ts:List Par) (s:ByteArray) (b:Bool):Prop:=T s b∨∃ j,lo≤j∧j < ts.length∧s=tname j∧(at' ts j).list=b
theorem ExtT.mono {T T':ByteArray→Bool→Prop} {lo lo':Nat} {ts us:List Par} (hT:∀ s b,T s b→ExtT T' lo' us s b) (hl:lo'≤lo) (hu:ts.length≤us.length) (h:∀ j,lo≤j→j < ts.length→(at' us j).list=(at' ts j).list):∀ s b,ExtT T lo ts s b→ExtT T' lo' us s b:=fun s b e=>by
 rcases e with e|⟨j,j1,j2,j3,j4⟩
 · exact hT s b e
 · exact .inr ⟨j,by omega,by omega,j3,(h j j1 j2).trans j4⟩
theorem ExtT.pre {T:ByteArray→Bool→Prop} {lo:Nat} {ts us:List Par} (hp:ts <+:us):∀ s b,ExtT T lo ts s b→ExtT T lo us s b:=
 ExtT.mono (fun _ _ e=>.inl e) (Nat.le_refl _) hp.length_le (fun j _ hj=>by rw [zgD hp hj])
def OldTy (T:ByteArray→Bool→Prop) (N:Nat):Prop:=∀ s b,T s b→OldT N s
theorem OldTy.ext {T:ByteArray→Bool→Prop} {lo:Nat} {ts:List Par} (h:OldTy T lo) (hl:lo≤ts.length):OldTy (ExtT T lo ts) ts.length:=fun s b e=>by
 rcases e with e|⟨j,j1,j2,j3,j4⟩
 · exact (h s b e).mono hl
 · intro i hi e2
   have:=zbO (j3.symm.trans e2)
   omega
theorem zcg:∀ (d:Nat) (n:Nd),formedN n=true→sizeN n≤d→namesN d n=(if n.kind=84 then namesN (sizeN (at' n.kids 1)) (at' n.kids 1) else decide (n.kind=81))
 | 0,n,hf,h=>by have:=zaH n;omega
 | d+1,n,hf,h=>by
   rw [namesN]
   by_cases hk:n.kind=84
   · rw [if_pos hk,if_pos hk]
     have hl:n.kids.length=2:=by
      match n,hk,hf with
      | .mk k num name kids,hk,hf=>
        obtain rfl:k=84:=hk
        rw [formedN,Bool.and_eq_true] at hf
        have hf1:=hf.1
        simp [formB] at hf1
        exact hf1.2.2
     have h1:1 < n.kids.length:=by omega
     have hs:=zaC n 1 h1
     have hf1:=zaz hf h1
     rw [zcg d _ hf1 (by omega),zcg (sizeN (at' n.kids 1)) _ hf1 (Nat.le_refl _)]
   · rw [if_neg hk,if_neg hk]
termination_by d=>d
decreasing_by all_goals (first|omega|(have:=zaC n 1 h1;omega))
theorem zmb {lib:List Fn} {n c a b:Nd} {vis:Vis} {env:Env} {ts:List Par} (h:Rdy lib n vis env ts) (hk:n.kind=83) (hks:n.kids=[c,a,b]):(checkN lib c vis).1=false∧(checkN lib b vis).1=(checkN lib a vis).1:=by
 obtain ⟨hf,hc,hag,hts,hsz⟩:=h
 match n,hk,hks,hc with
 | .mk k num name kids,hk,hks,hc=>
   obtain rfl:k=83:=hk
   obtain rfl:kids=[c,a,b]:=hks
   obtain ⟨hr,hcl,hres,hty⟩:=zbj (by decide) hc
   simp only [show decide ((83:Int)=84)=false from rfl] at hcl hres
   have ht:=zcx _ _ _ hcl
   obtain ⟨r1,_⟩:=zbW hres
   rw [ht] at r1
   simp [wantT] at r1
   exact ⟨r1.1,r1.2⟩
theorem zhv {lib:List Fn} {T:ByteArray→Bool→Prop} {tn x:ByteArray} {b:Bool} (h1:T tn b) (h2:T x b) (hne:x≠tn):TyB lib T (varB tn b x):=by
 rw [varB,TyB]
 exact ⟨⟨h1,fun a ha=>by rw [List.mem_singleton.1 ha];exact hne,.inr (.inl ⟨rfl,h2⟩)⟩,.nil _ _,.nil _ _⟩
structure ArgT (lib:List Fn) (call:Bool) (n:Nd) (vis:Vis) (env:Env) (ts:List Par) (T:ByteArray→Bool→Prop) (q:Nat):Prop where
 bs:TyBs lib (ExtT T ts.length (argsN lib call (n.kids.take q) env ts).ts) (argsN lib call (n.kids.take q) env ts).bs
 ty:∀ i,i < q→ExtT T ts.length (argsN lib call (n.kids.take q) env ts).ts (at' (argsN lib call (n.kids.take q) env ts).args i) (checkN lib (at' n.kids i) vis).1
 tmp:call=true→∀ a ∈ (argsN lib call (n.kids.take q) env ts).args,∃ j,j < (argsN lib call (n.kids.take q) env ts).ts.length∧a=tname j
 nodup:call=true→(argsN lib call (n.kids.take q) env ts).args.Nodup
theorem znL {lib:List Fn} (hl:PLen lib) (m:Nat):∀ (n:Nd) (vis:Vis) (env:Env) (ts:List Par) (T:ByteArray→Bool→Prop),sizeN n≤m→Rdy lib n vis env ts→(∀ s p,env s=some p→T p.name p.list)→OldTy T ts.length→
 TyBs lib (ExtT T ts.length (exprN lib n env ts).ts) (exprN lib n env ts).bs∧ExtT T ts.length (exprN lib n env ts).ts (exprN lib n env ts).par.name (exprN lib n env ts).par.list∧
  (namesN (sizeN n) n=false→∃ j,ts.length≤j∧j < (exprN lib n env ts).ts.length∧(exprN lib n env ts).par.name=tname j):=by
 induction m with
 | zero=>intro n vis env ts T hm;have:=zaH n;omega
 | succ m ih=>
   intro n vis env ts T hm hr hE hO
   by_cases h81:n.kind=81
   · obtain ⟨p,hp,he⟩:=znD hr h81
     rw [he]
     refine ⟨.nil _ _,.inl (hE _ _ hp),fun hn=>?_⟩
     rw [zcg _ _ hr.form (Nat.le_refl _),if_neg (by omega)] at hn
     simp [h81] at hn
   by_cases h84:n.kind=84
   · obtain ⟨a,b,vis2,X,Y,hk,hX,hY,ra,rb,le1,e1,e2,e3⟩:=znY hl hr h84
     rw [e1,e2,e3]
     have hs0:=zaC n 0 (by rw [hk];simp)
     have hs1:=zaC n 1 (by rw [hk];simp)
     rw [hk] at hs0 hs1
     simp only [show at' [a,b] 0=a from rfl,show at' [a,b] 1=b from rfl] at hs0 hs1
     have h1:=ih a _ _ _ T (by omega) ra hE hO
     have p1:=zaY lib a env ts
     have p2:=zaY lib b (env.put n.name X.par) X.ts
     rw [← hX] at h1 p1
     have h2:=ih b _ _ _ (ExtT T ts.length X.ts) (by omega) rb (fun s p hs=>by
      by_cases e:s=n.name
      · simp only [Env.put,if_pos e,Option.some.injEq] at hs
        subst hs;exact h1.2.1
      · simp only [Env.put,if_neg e] at hs
        exact .inl (hE _ _ hs)) (hO.ext p1.length_le)
     rw [← hY] at h2 p2
     have hm2:∀ s b,ExtT (ExtT T ts.length X.ts) X.ts.length Y.ts s b→ExtT T ts.length Y.ts s b:=ExtT.mono (ExtT.pre p2) p1.length_le (Nat.le_refl _) (fun _ _ _=>rfl)
     refine ⟨(TyBs.more (ExtT.pre p2) _ h1.1).append (TyBs.more hm2 _ h2.1),hm2 _ _ h2.2.1,fun hn=>?_⟩
     rw [zcg _ _ hr.form (Nat.le_refl _),if_pos h84,hk] at hn
     obtain ⟨j,j1,j2,j3⟩:=h2.2.2 hn
     exact ⟨j,Nat.le_trans p1.length_le j1,j2,j3⟩
   by_cases h83:n.kind=83
   · obtain ⟨c,a,b,X,Y,Z,hk,hX,hY,hZ,rc,ra,rb,lt1,le1,le2,g1,g2,g3,e1,e2,e3⟩:=zoy hl hr h83
     rw [e1,e2,e3]
     obtain ⟨t0,t12⟩:=zmb hr h83 hk
     have hs0:=zaC n 0 (by rw [hk];simp)
     have hs1:=zaC n 1 (by rw [hk];simp)
     have hs2:=zaC n 2 (by rw [hk];simp)
     rw [hk] at hs0 hs1 hs2
     simp only [show at' [c,a,b] 0=c from rfl,show at' [c,a,b] 1=a from rfl,show at' [c,a,b] 2=b from rfl] at hs0 hs1 hs2
     have h1:=ih c _ _ _ T (by omega) rc hE hO
     have lx:=(rc.good hl).list
     have ly:=(ra.good hl).list
     have lz:=(rb.good hl).list
     have p1:=zaY lib c env ts
     have p2:=zaY lib a env (X.ts ++ [⟨tname X.ts.length,false⟩])
     have p3:=zaY lib b env (setTy Y.ts X.ts.length Y.par.list)
     rw [← hX] at h1 p1 lx
     have hO1:=hO.ext p1.length_le
     have hE1:∀ s p,env s=some p→ExtT T ts.length X.ts p.name p.list:=fun s p hs=>.inl (hE s p hs)
     have h2:=ih a _ _ (X.ts ++ [⟨tname X.ts.length,false⟩]) (ExtT T ts.length X.ts) (by omega) ra hE1 (fun s b e=>(hO1 s b e).mono (by simp))
     rw [← hY] at h2 p2 ly
     have h3:=ih b _ _ (setTy Y.ts X.ts.length Y.par.list) (ExtT T ts.length X.ts) (by omega) rb hE1 (fun s b e=>(hO1 s b e).mono (by rw [zat];omega))
     rw [← hZ] at h3 p3 lz
     have hzl:Z.par.list=Y.par.list:=by rw [lz,ly,t12]
     have hxl:X.par.list=false:=by rw [lx,t0]
     have q1:X.ts <+:Z.ts:=(zeQ ((List.prefix_append X.ts _).trans p2) (Nat.le_refl _) Y.par.list).trans p3
     have l13:=p3.length_le
     rw [zat] at l13
     have l12:=p2.length_le
     rw [List.length_append,List.length_singleton] at l12 h2
     rw [zat] at h3
     have tZ:(at' Z.ts X.ts.length).list=Y.par.list:=by
      rw [zgD p3 (by rw [zat];exact lt1),zfw lt1]
     have hlo:=p1.length_le
     have mX:∀ s b,ExtT T ts.length X.ts s b→ExtT T ts.length Z.ts s b:=ExtT.pre q1
     have mY:∀ s b,ExtT (ExtT T ts.length X.ts) (X.ts.length+1) Y.ts s b→ExtT T ts.length Z.ts s b:=ExtT.mono mX (by omega) l13 (fun j j1 j2=>by
      rw [zgD p3 (by rw [zat];exact j2)]
      have:¬ X.ts.length=j:=by omega
      simp [setTy,at',List.getD_eq_getElem?_getD,this])
     have mZ:∀ s b,ExtT (ExtT T ts.length X.ts) Y.ts.length Z.ts s b→ExtT T ts.length Z.ts s b:=ExtT.mono mX (by omega) (Nat.le_refl _) (fun _ _ _=>rfl)
     have hto:ExtT T ts.length Z.ts (tname X.ts.length) Y.par.list:=.inr ⟨X.ts.length,hlo,by omega,rfl,tZ⟩
     have nY:Y.par.name≠tname X.ts.length:=by
      rcases h2.2.1 with e|⟨j,j1,j2,j3,j4⟩
      · exact hO1 _ _ e _ (Nat.le_refl _)
      · rw [j3];intro e;have:=zbO e;omega
     have nZ:Z.par.name≠tname X.ts.length:=by
      rcases h3.2.1 with e|⟨j,j1,j2,j3,j4⟩
      · exact hO1 _ _ e _ (Nat.le_refl _)
      · rw [j3];intro e;have:=zbO e;omega
     have nX:X.par.name≠tname X.ts.length:=hO1 _ _ h1.2.1 _ (Nat.le_refl _)
     refine ⟨(TyBs.more mX _ h1.1).append (TyBs.one ?_),hto,fun _=>⟨X.ts.length,hlo,by omega,rfl⟩⟩
     rw [TyB]
     have hc0:=mX _ _ h1.2.1
     rw [hxl] at hc0
     have hy0:=mY _ _ h2.2.1
     have hz0:=mZ _ _ h3.2.1
     rw [hzl] at hz0
     exact ⟨⟨hto,fun x hx=>by rw [List.mem_singleton.1 hx];exact nX,.inr (.inr (.inr (.inl ⟨rfl,hc0⟩)))⟩,(TyBs.more mY _ h2.1).append (TyBs.one (zhv hto hy0 nY)),(TyBs.more mZ _ h3.1).append (TyBs.one (zhv hto hz0 nZ))⟩
   have hgood:=(hr.good hl).bs
   rw [zoE hr h81 h84 h83] at hgood ⊢
   have hA:=zmr hl hr h81 h84 (decide (n.kind=85))
   have key:∀ q,q≤n.kids.length→ArgT lib (decide (n.kind=85)) n vis env ts T q:=by
    intro q
    induction q with
    | zero=>
      intro _
      have e:argsN lib (decide (n.kind=85)) (n.kids.take 0) env ts=⟨ts,[],[],env⟩:=by rw [List.take_zero,argsN]
      exact ⟨by rw [e];exact .nil _ _,fun i hi=>absurd hi (by omega),fun _ a ha=>by rw [e] at ha;simp at ha,fun _=>by rw [e];exact List.nodup_nil⟩
    | succ q ihq=>
      intro hq
      have hlt:q < n.kids.length:=by omega
      obtain ⟨i1,i2,i3,i4⟩:=ihq (by omega)
      have ha:=hA q (by omega)
      have hrd:=ha.rdy hlt
      have hsk:=zaC n q hlt
      have pa:=zdk lib (decide (n.kind=85)) (n.kids.take q) env ts
      have hlen:=zbu lib (decide (n.kind=85)) (n.kids.take q) env ts
      rw [List.length_take,Nat.min_eq_left (by omega)] at hlen
      have lx:=(hrd.good hl).list
      have e:=zdq lib (decide (n.kind=85)) hlt env ts
      rw [argStep,ha.ev] at e
      generalize hR:argsN lib (decide (n.kind=85)) (n.kids.take q) env ts=R at *
      have hO1:=hO.ext pa.length_le
      have hx:=ih (at' n.kids q) _ _ R.ts (ExtT T ts.length R.ts) (by omega) hrd (fun s p hs=>.inl (hE s p hs)) hO1
      have px:=zaY lib (at' n.kids q) env R.ts
      generalize hX:exprN lib (at' n.kids q) env R.ts=X at *
      have mR:∀ s b,ExtT T ts.length R.ts s b→ExtT T ts.length X.ts s b:=ExtT.pre px
      have mX:∀ s b,ExtT (ExtT T ts.length R.ts) R.ts.length X.ts s b→ExtT T ts.length X.ts s b:=ExtT.mono mR pa.length_le (Nat.le_refl _) (fun _ _ _=>rfl)
      have hOX:OldTy (ExtT T ts.length X.ts) X.ts.length:=hO.ext (Nat.le_trans pa.length_le px.length_le)
      have hpar:=mX _ _ hx.2.1
      have atl:∀ (y:ByteArray) i,i < q+1→at' (R.args ++ [y]) i=if i < q then at' R.args i else y:=fun y i hi=>by
       by_cases h:i < q
       · rw [if_pos h]
         simp only [at',List.getD_eq_getElem?_getD,List.getElem?_append_left (show i < R.args.length by omega)]
       · rw [if_neg h]
         obtain rfl:i=R.args.length:=by omega
         simp [at',List.getD_eq_getElem?_getD]
      split at e
      · rename_i hc
        rw [Bool.and_eq_true] at hc
        have mP:∀ s b,ExtT T ts.length X.ts s b→ExtT T ts.length (X.ts ++ [⟨tname X.ts.length,X.par.list⟩]) s b:=ExtT.pre (List.prefix_append _ _)
        have hto:ExtT T ts.length (X.ts ++ [⟨tname X.ts.length,X.par.list⟩]) (tname X.ts.length) X.par.list:=.inr ⟨X.ts.length,Nat.le_trans pa.length_le px.length_le,by simp,rfl,by rw [zkK]⟩
        refine ⟨?_,fun i hi=>?_,fun hcc a haa=>?_,fun hcc=>?_⟩
        · rw [e]
          exact ((TyBs.more (fun s b t=>mP _ _ (mR s b t)) _ i1).append (TyBs.more (fun s b t=>mP _ _ (mX s b t)) _ hx.1)).append (TyBs.one (zhv hto (mP _ _ hpar) (hOX _ _ hpar _ (Nat.le_refl _))))
        · rw [e]
          show ExtT T ts.length (X.ts ++ [⟨tname X.ts.length,X.par.list⟩]) (at' (R.args ++ [tname X.ts.length]) i) _
          rw [atl _ i hi]
          by_cases h:i < q
          · rw [if_pos h];exact mP _ _ (mR _ _ (i2 i h))
          · rw [if_neg h]
            obtain rfl:i=q:=by omega
            rw [← lx];exact hto
        · rw [e] at haa ⊢
          show ∃ j,j < (X.ts ++ [(⟨tname X.ts.length,X.par.list⟩:Par)]).length∧a=tname j
          have haa:a ∈ R.args ++ [tname X.ts.length]:=haa
          rcases List.mem_append.1 haa with h|h
          · obtain ⟨j,j1,j2⟩:=i3 hcc a h
            exact ⟨j,by have:=px.length_le;simp;omega,j2⟩
          · exact ⟨X.ts.length,by simp,List.mem_singleton.1 h⟩
        · rw [e]
          show (R.args ++ [tname X.ts.length]).Nodup
          refine List.nodup_append.2 ⟨i4 hcc,by simp,fun a h b hb e2=>?_⟩
          obtain ⟨j,j1,j2⟩:=i3 hcc a h
          rw [List.mem_singleton.1 hb] at e2
          have:=zbO (j2.symm.trans e2)
          have:=px.length_le
          omega
      · rename_i hc
        refine ⟨?_,fun i hi=>?_,fun hcc a haa=>?_,fun hcc=>?_⟩
        · rw [e]
          exact (TyBs.more mR _ i1).append (TyBs.more mX _ hx.1)
        · rw [e]
          show ExtT T ts.length X.ts (at' (R.args ++ [X.par.name]) i) _
          rw [atl _ i hi]
          by_cases h:i < q
          · rw [if_pos h];exact mR _ _ (i2 i h)
          · rw [if_neg h]
            obtain rfl:i=q:=by omega
            rw [← lx];exact hpar
        all_goals
         have hnm:namesN (sizeN (at' n.kids q)) (at' n.kids q)=false:=by
          rw [hcc,Bool.true_and] at hc
          simpa using hc
         obtain ⟨j0,k1,k2,k3⟩:=hx.2.2 hnm
        · rw [e] at haa ⊢
          have haa:a ∈ R.args ++ [X.par.name]:=haa
          show ∃ j,j < X.ts.length∧a=tname j
          rcases List.mem_append.1 haa with h|h
          · obtain ⟨j,j1,j2⟩:=i3 hcc a h
            exact ⟨j,by have:=px.length_le;omega,j2⟩
          · exact ⟨j0,k2,(List.mem_singleton.1 h).trans k3⟩
        · rw [e]
          show (R.args ++ [X.par.name]).Nodup
          refine List.nodup_append.2 ⟨i4 hcc,by simp,fun a h b hb e2=>?_⟩
          obtain ⟨j,j1,j2⟩:=i3 hcc a h
          rw [List.mem_singleton.1 hb,k3] at e2
          have:=zbO (j2.symm.trans e2)
          omega
   obtain ⟨k1,k2,k3,k4⟩:=key n.kids.length (Nat.le_refl _)
   have pk:=zdk lib (decide (n.kind=85)) n.kids env ts
   have hal:=zbu lib (decide (n.kind=85)) n.kids env ts
   rw [List.take_length] at k1 k2 k3 k4
   obtain ⟨hf,hc,hag,hts,hsz⟩:=hr
   obtain ⟨hrr,hcl,hres,hty⟩:=zbj (k:=n.kind) (num:=n.num) (name:=n.name) (kids:=n.kids) h81 (by rw [Nd.eta];exact hc)
   rw [show decide (n.kind=84)=false by simp [h84]] at hcl hres
   have htl:=zcx _ _ _ hcl
   obtain ⟨r1,_⟩:=zbW hres
   rw [htl,List.nil_append] at r1
   generalize hR:argsN lib (decide (n.kind=85)) n.kids env ts=R at *
   have hgb:GoodB lib (.mk (tname R.ts.length) (if n.kind=85 then (fnAt lib (findF lib n.name)).list else opList n.kind) n.kind n.num n.name R.args [] []):=GoodBs.mem hgood _ (by simp)
   rw [GoodB] at hgb
   have mP:∀ s b,ExtT T ts.length R.ts s b→ExtT T ts.length (R.ts ++ [⟨tname R.ts.length,if n.kind=85 then (fnAt lib (findF lib n.name)).list else opList n.kind⟩]) s b:=ExtT.pre (List.prefix_append _ _)
   have hto:ExtT T ts.length (R.ts ++ [⟨tname R.ts.length,if n.kind=85 then (fnAt lib (findF lib n.name)).list else opList n.kind⟩]) (tname R.ts.length) (if n.kind=85 then (fnAt lib (findF lib n.name)).list else opList n.kind):=.inr ⟨R.ts.length,pk.length_le,by simp,rfl,by rw [zkK]⟩
   have hOR:OldTy (ExtT T ts.length R.ts) R.ts.length:=hO.ext pk.length_le
   have hne:∀ a ∈ R.args,a≠tname R.ts.length:=fun a ha=>by
    obtain ⟨i,hi,rfl⟩:=List.getElem_of_mem ha
    rw [← zax hi]
    exact hOR _ _ (k2 i (by omega)) _ (Nat.le_refl _)
   have want:∀ i b,i < n.kids.length→(wantT lib n.kind n.name (n.kids.map fun n=>(checkN lib n vis).1)).1[i]?=some b→ExtT T ts.length (R.ts ++ [⟨tname R.ts.length,if n.kind=85 then (fnAt lib (findF lib n.name)).list else opList n.kind⟩]) (at' R.args i) b:=fun i b hi hb=>by
    rw [← r1,List.getElem?_map,List.getElem?_eq_getElem hi] at hb
    simp only [Option.map_some,Option.some.injEq] at hb
    have:=k2 i hi
    rw [zax hi,hb] at this
    exact mP _ _ this
   have hkl:n.kids.length=(wantT lib n.kind n.name (n.kids.map fun n=>(checkN lib n vis).1)).1.length:=by
    have:=congrArg List.length r1
    simpa using this
   refine ⟨(TyBs.more mP _ k1).append (TyBs.one ?_),hto,fun _=>⟨R.ts.length,pk.length_le,by simp,rfl⟩⟩
   rw [TyB]
   refine ⟨⟨hto,hne,?_⟩,.nil _ _,.nil _ _⟩
   rcases hgb.2.2.1 with ⟨h,_⟩|⟨h,_⟩|⟨h,_⟩|⟨h,_⟩|⟨h,_⟩|h|⟨h,_⟩|⟨h,_⟩
   · exact .inl ⟨h,by rw [h];rfl⟩
   · exact absurd h h81
   · have w1:(wantT lib n.kind n.name (n.kids.map fun n=>(checkN lib n vis).1)).1=[false,false]:=by rw [h];rfl
     rw [w1] at want hkl
     exact .inr (.inr (.inl ⟨h,by rw [h];rfl,want 0 _ (by rw [hkl];decide) rfl,want 1 _ (by rw [hkl];decide) rfl⟩))
   · exact absurd h h83
   · have w1:(wantT lib n.kind n.name (n.kids.map fun n=>(checkN lib n vis).1)).1=(fnAt lib (findF lib n.name)).params.map Par.list:=by rw [h];simp [wantT]
     rw [w1] at want hkl
     rw [List.length_map] at hkl
     refine .inr (.inr (.inr (.inr (.inl ⟨h,by rw [if_pos h],by rw [hal,hkl],k4 (by simp [h]),fun i hi=>?_⟩))))
     refine want i _ (by omega) ?_
     rw [List.getElem?_map,List.getElem?_eq_getElem (show i < (fnAt lib (findF lib n.name)).params.length by omega),zax (show i < (fnAt lib (findF lib n.name)).params.length by omega)]
     rfl
   · exact .inr (.inr (.inr (.inr (.inr (.inl ⟨h,by rw [h];rfl⟩)))))
   · have w1:(wantT lib n.kind n.name (n.kids.map fun n=>(checkN lib n vis).1)).1=[false,true]:=by rw [h];rfl
     rw [w1] at want hkl
     exact .inr (.inr (.inr (.inr (.inr (.inr (.inl ⟨h,by rw [h];rfl,want 0 _ (by rw [hkl];decide) rfl,want 1 _ (by rw [hkl];decide) rfl⟩))))))
   · rcases h with h|h|h
     · have w1:(wantT lib n.kind n.name (n.kids.map fun n=>(checkN lib n vis).1)).1=[true]:=by rw [h];rfl
       rw [w1] at want hkl
       exact .inr (.inr (.inr (.inr (.inr (.inr (.inr (.inl ⟨h,by rw [h];rfl,want 0 _ (by rw [hkl];decide) rfl⟩)))))))
     · have w1:(wantT lib n.kind n.name (n.kids.map fun n=>(checkN lib n vis).1)).1=[true]:=by rw [h];rfl
       rw [w1] at want hkl
       exact .inr (.inr (.inr (.inr (.inr (.inr (.inr (.inr (.inl ⟨h,by rw [h];rfl,want 0 _ (by rw [hkl];decide) rfl⟩))))))))
     · have w1:(wantT lib n.kind n.name (n.kids.map fun n=>(checkN lib n vis).1)).1=[true]:=by rw [h];rfl
       rw [w1] at want hkl
       exact .inr (.inr (.inr (.inr (.inr (.inr (.inr (.inr (.inr ⟨h,by rw [h];rfl,want 0 _ (by rw [hkl];decide) rfl⟩))))))))
end Go.Proofs.YtpobmoegmdhbpaaGreatDoor
