/- Contracts and plain lemmas (FevT, FevU, FevV, FevW, FevX, FevY): no statement of the seat is proved here. -/
import Derived.Test.YtjhimhlebbamoaaDoorZq09
import Derived.MapKept
/- Walks of package funeval:the contract of expr;expr at an if. -/
set_option linter.unusedSimpArgs false
set_option linter.unusedVariables false
set_option linter.unusedSectionVars false
set_option maxRecDepth 100000
set_option maxHeartbeats 3200000
namespace Go.Proofs.YtjhimhlebbamoaaDoor
open Go.RowKit
def XEv (d:Nat):Prop:=∀ (C:EC) (n:Nd) (v:Value) (cb mb:Nat) (A:Nat→Prop) (w:World) (rv:Value) (ts:List Tr) (env:VEnv) (N:Nat) (fuel active:Int),fuel.toNat < d→fuel≤1000000→0≤active∧active≤30→(ts.length:Int)+fuel≤2000000→N+sizeN n≤100000→
 formedN n=true→CallsOk C.lib n→EnvLen env→NdAt A w v n→EvSt C cb A w rv ts fuel active→EnvAt A w mb env N→
 Calls Tryd.prog 65 #[.pointer (some ⟨C.ev,0,none⟩),v,.map (some mb),.pointer (some ⟨cb,0,none⟩)] w (EPost C cb A w rv ts active (evalN apI C.lib d n env fuel active))
theorem len_steps:∀ l:List Tr,(l.length:Int)≤stepsL l
 | []=>by rw [stepsL];simp
 | t :: l=>by
   have h:=len_steps l
   have h2:1≤stepsT t:=by
    cases t with
    | mk f a r cs=>rw [stepsT];have:0≤stepsL cs:=Int.le_trans (by omega) (len_steps cs);omega
   rw [stepsL];simp;omega
theorem eval_left (lib:List Fn) (d:Nat) (n:Nd) (env:VEnv) (f active:Int) (h:0≤active∧active≤30):(evalN apI lib d n env f active).fuel≤f∧((evalN apI lib d n env f active).calls.length:Int)≤f - (evalN apI lib d n env f active).fuel:=by
 have hc:=eval_cost apI lib d n env f active (30 - active).toNat (by omega)
 have:=len_steps (evalN apI lib d n env f active).calls
 exact ⟨hc.1,by have:=hc.2.1;omega⟩
theorem calls_app (ts a b:List Tr) (tr:Bool):(ts ++ (if tr then a else [])) ++ (if tr then b else [])=ts ++ (if tr then a ++ b else []):=by cases tr <;> simp
theorem calls_len (ts a:List Tr) (tr:Bool):(ts ++ (if tr then a else [])).length≤ts.length+a.length:=by cases tr <;> simp
theorem EStep.own {C:EC} {cb:Nat} {A A1:Nat→Prop} {w1 w2:World} {rv rv1:Value} {g:Nat} {o:Obj} (h:EStep C cb A w1 rv A1 w2 rv1) (hg:w1.heap[g]?=some o) (hA:¬ A g) (hM:¬ MuE C cb rv g):w2.heap[g]?=some o∧¬ A1 g∧¬ MuE C cb rv1 g:=by
 have hlt:g < w1.heap.size:=by rw [Array.getElem?_eq_some_iff] at hg;exact hg.1
 refine ⟨(h.keeps.block g hlt hM).trans hg,fun a=>?_,fun m=>?_⟩
 · rcases h.new g a with a|a
   · exact hA a
   · omega
 · rcases m.new h.nrv with a|a
   · exact hM a
   · omega
theorem formed_if {n:Nd} (h:formedN n=true) (hk:n.kind=83):n.kids.length=3:=by
 obtain ⟨k,num,name,kids⟩:=n
 simp only [Nd.kind] at hk
 subst hk
 rw [formedN,Bool.and_eq_true] at h
 have h1:=h.1
 unfold formB at h1
 simp at h1
 exact h1.2
theorem ev_if (d:Nat) (ih:XEv d) (C:EC) (n:Nd) (v:Value) (cb mb:Nat) (A:Nat→Prop) (w:World) (rv:Value) (ts:List Tr) (env:VEnv) (N:Nat) (fuel active:Int) (hd:fuel.toNat < d+1) (h0:0 < fuel∧fuel≤1000000) (hac:0≤active∧active≤30) (htl:(ts.length:Int)+fuel≤2000000) (hN:N+sizeN n≤100000) (h83:n.kind=83) (hf:formedN n=true) (hc:CallsOk C.lib n) (hel:EnvLen env) (hv:NdAt A w v n) (hst:EvSt C cb A w rv ts fuel active) (hen:EnvAt A w mb env N):
 Calls Tryd.prog 65 #[.pointer (some ⟨C.ev,0,none⟩),v,.map (some mb),.pointer (some ⟨cb,0,none⟩)] w (EPost C cb A w rv ts active (evalN apI C.lib (d+1) n env fuel active)):=by
 obtain ⟨hok,hlen,ka,kc,rfl,hk⟩:=hv.open
 have hk3:=formed_if hf h83
 have HX:Hid (evalN apI C.lib (d+1) n env fuel active=(let x:=evalN apI C.lib d (at' n.kids 0) env (fuel - 1) active
  if x.err≠0 then ⟨noVl,x.err,x.fuel,x.calls⟩
  else
   let y:=evalN apI C.lib d (if x.val.n≠0 then at' n.kids 1 else at' n.kids 2) env x.fuel active
   ⟨y.val,y.err,y.fuel,x.calls ++ y.calls⟩)):=Lib.hid (by
  obtain ⟨k,num,name,kids⟩:=n
  have h83':k=83:=h83
  rw [evalN,if_neg (by omega),if_neg (by omega),if_neg (by omega),if_pos h83'];rfl)
 have hS0:=hst.below (bel_alloc (x:=.cells #[.bool false,.int .i64 0,.slice none 0 0] 40) (bel_alloc (x:=.cells #[.int .u8 n.kind,.int .i64 n.num,.string n.name,.slice ka n.kids.length kc] 66) (Below.refl _ _)))
 have e1:=cell_blk hS0.ev 1 rfl
 have f1:=unfrozen hS0.ev
 obtain ⟨w1,w2,w3,w4⟩:=ew_start hst (.cells #[.int .u8 n.kind,.int .i64 n.num,.string n.name,.slice ka n.kids.length kc] 66) (.cells #[.bool false,.int .i64 0,.slice none 0 0] 40) (fuel - 1)
 obtain ⟨b,off,cap,ka0,kc0,he,_,_,_,q0,q1,q2,q3,hnd0⟩:=(hk.stays (hst.stays w4)).at (j:=0) (by omega)
 simp only [Value.slice.injEq] at he
 obtain ⟨rfl,-,rfl⟩:=he
 simp only [Nat.zero_mul,Nat.add_zero] at q0 q1 q2 q3
 have hsz:=size_kid n 0 (by omega)
 have HC0:=Lib.hid (ih C (at' n.kids 0) _ cb mb A _ rv ts env N (fuel - 1) active (by omega) (by omega) hac (by omega) (by omega) (formed_kid hf (by omega)) (hc.kid (by omega)) hel hnd0 w1 (hen.stays (hst.stays w4)))
 have HK:=Lib.hid hk
 have HST:=Lib.hid hst
 have HEN:=Lib.hid hen
 have HW2:=Lib.hid w2
 have HW3:=Lib.hid w3
 have HW4:=Lib.hid w4
 obtain ⟨n0,n1,n2,n3⟩:=cells4 w2
 have d0:¬ fuel≤0:=by omega
 have hwr:IntKind.i64.wrap (fuel - 1)=fuel - 1:=by rw [IntKind.wrap_i64];omega
 have d80:(n.kind == 80)=false:=by simp [h83]
 have d81:(n.kind == 81)=false:=by simp [h83]
 have d83:(n.kind == 83)=true:=by simpa using h83
 have i0:(0:Int) < (n.kids.length:Int):=by omega
 have i1:(1:Int) < (n.kids.length:Int):=by omega
 have i2:(2:Int) < (n.kids.length:Int):=by omega
 have HK3:=Lib.hid hk3
 clear hst hen hS0 h83 w1 w2 w3 w4 hk hnd0 hk3
 go_enter Tryd.func65,Tryd.ntmps65
 have hleft:=eval_left C.lib d (at' n.kids 0) env (fuel - 1) active hac
 generalize evalN apI C.lib d (at' n.kids 0) env (fuel - 1) active=x at HC0 HX hleft
 have hna:¬ A (w.heap.size+1):=fun a=>by have:=HST.out.alt _ a;omega
 have hnm:¬ MuE C cb rv (w.heap.size+1):=fun m=>by have:=HST.out.mlt m;omega
 have hna0:¬ A w.heap.size:=fun a=>by have:=HST.out.alt _ a;omega
 have hnm0:¬ MuE C cb rv w.heap.size:=fun m=>by have:=HST.out.mlt m;omega
 go_wp2_with fail
 refine HC0.out.mono ?_
 rintro e w5 ⟨A1,rv1,v1,rfl,hv1,hs1,ht1⟩
 obtain ⟨a1,c1,rfl,hn1,hr1⟩:=hv1
 obtain ⟨z5,hz5a,hz5m⟩:=ht1.own HW3.out hna hnm
 obtain ⟨n5,_,_⟩:=ht1.own HW2.out hna0 hnm0
 have HT1:=Lib.hid (HW4.out.trans ht1)
 have HS1:=Lib.hid hs1
 have HZ5:=Lib.hid z5
 have hX6:Below w5.heap.size w5 (w5.alloc (.cells #[.bool x.val.list,.int .i64 x.val.n,.slice a1 x.val.l.length c1] 40)):=bel_alloc (Below.refl _ _)
 have HZ6:=Lib.hid (blk_below hX6 z5)
 have HN6:=Lib.hid (blk_below hX6 n5)
 have HS6:=Lib.hid (hs1.below hX6)
 have HT6:=Lib.hid ((HW4.out.trans ht1).below hX6)
 have HK6:=Lib.hid ((HK.out.stays (HST.out.stays (HW4.out.trans ht1))).stays (Stays.of_below hX6))
 have HE6:=Lib.hid ((HEN.out.stays (HST.out.stays (HW4.out.trans ht1))).stays (Stays.of_below hX6))
 clear e1 f1 q0 q1 q2 q3 n0 n1 n2 n3 hs1 ht1 z5 n5 hr1 HC0
 by_cases hx:x.err=0
 · have dx:(x.err == 0)=true:=by simp [hx]
   have dx':(x.err != 0)=false:=by simp [hx]
   obtain ⟨n0,n1,n2,n3⟩:=cells4 HN6.out
   by_cases hj:x.val.n=0
   · have dj:(x.val.n == 0)=true:=by simp [hj]
     have dj':(x.val.n != 0)=false:=by simp [hj]
     have HX1:Hid (evalN apI C.lib (d+1) n env fuel active=⟨(evalN apI C.lib d (at' n.kids 2) env x.fuel active).val,(evalN apI C.lib d (at' n.kids 2) env x.fuel active).err,(evalN apI C.lib d (at' n.kids 2) env x.fuel active).fuel,x.calls ++ (evalN apI C.lib d (at' n.kids 2) env x.fuel active).calls⟩):=Lib.hid (by rw [HX.out];simp [hx,hj])
     obtain ⟨b',off',cap',ka1,kc1,he,_,_,_,q0,q1,q2,q3,hnd2⟩:=HK6.out.at (j:=2) (by omega)
     simp only [Value.slice.injEq,Option.some.injEq,Addr.mk.injEq,and_true] at he
     obtain ⟨⟨rfl,rfl⟩,-,rfl⟩:=he
     try simp only [] at q0 q1 q2 q3
     have hsz2:=size_kid n 2 (by omega)
     have hcl:=calls_len ts x.calls C.tr
     have HC2:=Lib.hid (ih C (at' n.kids 2) _ cb mb A1 _ rv1 _ env N x.fuel active (by omega) (by omega) hac (by omega) (by omega) (formed_kid hf (by omega)) (hc.kid (by omega)) hel hnd2 HS6.out HE6.out)
     have hna':¬ A1 (w.heap.size+1):=hz5a
     clear hnd2 hsz2 hcl hj
     generalize evalN apI C.lib d (at' n.kids 2) env x.fuel active=y at HC2 HX1
     go_wp2_with fail
     refine HC2.out.mono ?_
     rintro e w7 ⟨A2,rv2,v2,rfl,hv2,hs2,ht2⟩
     obtain ⟨a2,c2,rfl,hn2,hr2⟩:=hv2
     obtain ⟨z7,hz7a,hz7m⟩:=ht2.own HZ6.out hz5a hz5m
     have HS2:=Lib.hid hs2
     have HT2:=Lib.hid (HT6.out.trans ht2)
     have HR2:=Lib.hid hr2
     have HZ7:=Lib.hid z7
     obtain ⟨z0,z1,z2⟩:=cells3 HZ7.out
     have zf:=unfrozen HZ7.out
     clear hs2 ht2 hr2 z7 n0 n1 n2 n3 q0 q1 q2 q3
     go_wp2
     (try simp only [Exit.inBlock,Exit.then])
     refine bodyPost_ret (results_cell_row2 (P:=Tryd.prog) rfl _ _ (w.heap.size+1) _ _ _ _ _ rfl (set3 HZ7.out _ _ _) rfl Tryd.underlying40 rfl (by kernel_rfl)) rfl ?_
     rw [HX1.out]
     have h7:=HT2.out.keeps.size
     obtain ⟨r1,r2⟩:=res_sets HS2.out HT2.out (by omega) hz7a hz7m (.bool y.val.list) (.int .i64 y.val.n) (.slice a2 y.val.l.length c2)
     exact ⟨A2,rv2,_,rfl,(show VlAt A2 w7 _ y.val from ⟨a2,c2,rfl,hn2,HR2.out⟩).stays ((keeps_set3 _ (w.heap.size+1) _ _ _).stays (fun k a _ e=>hz7a (e ▸ a))),by rw [← calls_app];exact r1,r2⟩
   · have dj:(x.val.n == 0)=false:=by simp [hj]
     have dj':(x.val.n != 0)=true:=by simp [hj]
     have HX1:Hid (evalN apI C.lib (d+1) n env fuel active=⟨(evalN apI C.lib d (at' n.kids 1) env x.fuel active).val,(evalN apI C.lib d (at' n.kids 1) env x.fuel active).err,(evalN apI C.lib d (at' n.kids 1) env x.fuel active).fuel,x.calls ++ (evalN apI C.lib d (at' n.kids 1) env x.fuel active).calls⟩):=Lib.hid (by rw [HX.out];simp [hx,hj])
     obtain ⟨b',off',cap',ka1,kc1,he,_,_,_,q0,q1,q2,q3,hnd2⟩:=HK6.out.at (j:=1) (by omega)
     simp only [Value.slice.injEq,Option.some.injEq,Addr.mk.injEq,and_true] at he
     obtain ⟨⟨rfl,rfl⟩,-,rfl⟩:=he
     simp only [Nat.one_mul] at q0 q1 q2 q3
     have hsz2:=size_kid n 1 (by omega)
     have hcl:=calls_len ts x.calls C.tr
     have HC2:=Lib.hid (ih C (at' n.kids 1) _ cb mb A1 _ rv1 _ env N x.fuel active (by omega) (by omega) hac (by omega) (by omega) (formed_kid hf (by omega)) (hc.kid (by omega)) hel hnd2 HS6.out HE6.out)
     have hna':¬ A1 (w.heap.size+1):=hz5a
     clear hnd2 hsz2 hcl hj
     generalize evalN apI C.lib d (at' n.kids 1) env x.fuel active=y at HC2 HX1
     go_wp2_with fail
     refine HC2.out.mono ?_
     rintro e w7 ⟨A2,rv2,v2,rfl,hv2,hs2,ht2⟩
     obtain ⟨a2,c2,rfl,hn2,hr2⟩:=hv2
     obtain ⟨z7,hz7a,hz7m⟩:=ht2.own HZ6.out hz5a hz5m
     have HS2:=Lib.hid hs2
     have HT2:=Lib.hid (HT6.out.trans ht2)
     have HR2:=Lib.hid hr2
     have HZ7:=Lib.hid z7
     obtain ⟨z0,z1,z2⟩:=cells3 HZ7.out
     have zf:=unfrozen HZ7.out
     clear hs2 ht2 hr2 z7 n0 n1 n2 n3 q0 q1 q2 q3
     go_wp2
     (try simp only [Exit.inBlock,Exit.then])
     refine bodyPost_ret (results_cell_row2 (P:=Tryd.prog) rfl _ _ (w.heap.size+1) _ _ _ _ _ rfl (set3 HZ7.out _ _ _) rfl Tryd.underlying40 rfl (by kernel_rfl)) rfl ?_
     rw [HX1.out]
     have h7:=HT2.out.keeps.size
     obtain ⟨r1,r2⟩:=res_sets HS2.out HT2.out (by omega) hz7a hz7m (.bool y.val.list) (.int .i64 y.val.n) (.slice a2 y.val.l.length c2)
     exact ⟨A2,rv2,_,rfl,(show VlAt A2 w7 _ y.val from ⟨a2,c2,rfl,hn2,HR2.out⟩).stays ((keeps_set3 _ (w.heap.size+1) _ _ _).stays (fun k a _ e=>hz7a (e ▸ a))),by rw [← calls_app];exact r1,r2⟩
 · have dx:(x.err == 0)=false:=by simp [hx]
   have dx':(x.err != 0)=true:=by simp [hx]
   obtain ⟨z0,z1,z2⟩:=cells3 HZ6.out
   have zf:=unfrozen HZ6.out
   go_wp2
   (try simp only [Exit.inBlock,Exit.then])
   refine bodyPost_ret (results_cell_row2 (P:=Tryd.prog) rfl _ _ (w.heap.size+1) _ _ _ _ _ rfl (set3 HZ6.out _ _ _) rfl Tryd.underlying40 rfl (by kernel_rfl)) rfl ?_
   rw [HX.out]
   simp only [ne_eq,hx,not_false_eq_true,if_true]
   obtain ⟨r1,r2⟩:=res_sets HS6.out HT6.out (by omega) hz5a hz5m (.bool false) (.int .i64 0) (.slice none 0 0)
   exact ⟨A1,rv1,_,rfl,vl_no _,r1,r2⟩
end Go.Proofs.YtjhimhlebbamoaaDoor
/- maps.Clone at the evaluator's variables. -/
namespace Go.Proofs.YtjhimhlebbamoaaDoor
open Go.RowKit
theorem run_eqIn_map {P:Program} (w:World) (d:Nat) (t k e:TypeId) (p:Option Nat) (h:P.underlying t=some (.map k e)):
 (Op.equalIn (d+1) t (.map p) (.map none)).run P w=.ok p.isNone w:=by
 cases p <;> simp [Op.equalIn,run_underlying h]
theorem run_eql_map {P:Program} (w:World) (t k e:TypeId) (p:Option Nat) (h:P.underlying t=some (.map k e)):
 (binOp .eql t (.map p) (.map none)).run P w=.ok (.bool p.isNone) w:=by
 simp only [binOp]
 simp [show Op.equal t (.map p) (.map none)=Op.equalIn (9999+1) t (.map p) (.map none) from rfl,run_eqIn_map w 9999 t k e p h]
theorem run_as_map {P:Program} (w:World) (t xT k e:TypeId) (v:Value) (h:P.underlying t=some (.map k e)):(Instr.typeAssert (.iface t v) xT t false).run P w=.ok v w:=by
 simp [Instr.typeAssert,run_underlying h,go_sem,Result.andThen]
theorem run_clone {P:Program} (w:World) {r:Nat} {es:Array MapEntry} {clock:Nat} (t:TypeId) (hb:w.heap[r]?=some (.map es clock)):
 (Extern.MapsClone.clone #[.iface t (.map (some r))]).run P w=.ok (.iface t (.map (some w.heap.size))) (w.alloc (.map es clock)):=by
 have e:Extern.MapsClone.clone #[.iface t (.map (some r))]=(getObj r >>= fun o=>match o with
  | .map entries clock=>(newObj (.map entries clock) >>= fun n=>pure (.iface t (.map (some n))))
  | _=>stuck "maps.clone: a map expected"):=rfl
 rw [e]
 simp [MapKept.run_getObj_map hb,Result.andThen,go_sem]
theorem clone_any (b:Nat) (es:Array MapEntry) (clock:Nat) (w:World) (hb:w.heap[b]?=some (.map es clock)):
 Calls Tryd.prog 83 #[.map (some b)] w fun e w'=>e=.returned (.map (some w.heap.size))∧w'=w.alloc (.map es clock):=by
 have hq:=fun w=>run_eql_map (P:=Tryd.prog) w 153 _ _ (some b) Tryd.underlying153
 go_enter Tryd.func83,Tryd.ntmps83
 go_wp2
 rw [run_callFunc_extern Tryd.func93 (by kernel_rfl) (by kernel_rfl) (by kernel_rfl) (e:=Extern.MapsClone.clone) (by kernel_rfl),run_clone w 153 hb]
 simp only [Result.andThen]
 rw [Oper.upon_value]
 go_wp2
 rw [run_as_map _ 153 20 _ _ _ Tryd.underlying153]
 simp only [Result.andThen]
 rw [Oper.upon_value]
 go_wp2
 go_ret
 exact ⟨rfl,rfl⟩
end Go.Proofs.YtjhimhlebbamoaaDoor
/- The evaluator's variables behind a let:the copy of the map,the new name. -/
namespace Go.Proofs.YtjhimhlebbamoaaDoor
open Go.RowKit
theorem SMapLe.copy {P:Program} {kt:TypeId} {w w':World} {b b' N:Nat} {m:ByteArray→Option Value} (h:SMapLe P kt w b m N) (he:w'.heap[b']?=w.heap[b]?):SMapLe P kt w' b' m N:=by
 obtain ⟨n,hn,D,⟨es,clock,hb,F,hs,hD⟩,h2⟩:=h
 exact ⟨n,hn,D,⟨es,clock,he.trans hb,F,hs,hD⟩,h2⟩
theorem SMapLe.obj {P:Program} {kt:TypeId} {w:World} {b N:Nat} {m:ByteArray→Option Value} (h:SMapLe P kt w b m N):∃ es clock,w.heap[b]?=some (.map es clock):=by
 obtain ⟨n,hn,D,⟨es,clock,hb,F,hs,hD⟩,h2⟩:=h
 exact ⟨es,clock,hb⟩
def EnvOf (A:Nat→Prop) (w:World) (m:ByteArray→Option Value) (env:VEnv):Prop:=∀ s,(∀ v,m s=some v→VlAt A w v (env s))∧(m s=none→env s=noVl)
theorem EnvOf.stays {A A':Nat→Prop} {w w':World} {m:ByteArray→Option Value} {env:VEnv} (h:EnvOf A w m env) (hs:Stays A A' w w'):EnvOf A' w' m env:=
 fun s=>⟨fun v e=>((h s).1 v e).stays hs,(h s).2⟩
theorem EnvOf.put {A:Nat→Prop} {w:World} {m:ByteArray→Option Value} {env:VEnv} (h:EnvOf A w m env) (s:ByteArray) {v:Value} {x:Vl} (hx:VlAt A w v x):EnvOf A w (fun y=>if y=s then some v else m y) (env.put s x):=by
 intro y
 simp only [VEnv.put]
 by_cases e:y=s
 · simp only [e,if_true]
   exact ⟨fun v' e'=>by obtain rfl:=Option.some.inj e';exact hx,fun e'=>by cases e'⟩
 · simp only [e,if_false]
   exact h y
theorem EnvOf.at {A:Nat→Prop} {w:World} {mb N:Nat} {m:ByteArray→Option Value} {env:VEnv} (ha:A mb) (hm:SMapLe Tryd.prog 9 w mb m N) (h:EnvOf A w m env):EnvAt A w mb env N:=⟨ha,m,hm,h⟩
end Go.Proofs.YtjhimhlebbamoaaDoor
/- Walks of package funeval:expr at a let. -/
namespace Go.Proofs.YtjhimhlebbamoaaDoor
open Go.RowKit
theorem let_state {C:EC} {cb:Nat} {A A1:Nat→Prop} {w w5 w8:World} {rv rv1:Value} {ts:List Tr} {f active:Int} {b:Nat} (hs:EvSt C cb A1 w5 rv1 ts f active) (ht:EStep C cb A w rv A1 w5 rv1) (hk:Keeps w5 w8 (fun k=>k=b)) (hb:w5.heap.size≤b) (hlt:b < w8.heap.size):
 EvSt C cb (fun k=>A1 k∨k=b) w8 rv1 ts f active∧EStep C cb A w rv (fun k=>A1 k∨k=b) w8 rv1:=by
 have h0:=ht.keeps.size
 refine ⟨(hs.keeps hk (fun k a e=>by have:=hs.alt k a;omega) (fun k m e=>by have:=hs.mlt m;omega)).more (fun k a=>.inl a) (fun k a=>?_),(ht.young hk (fun k e=>by omega)).more (fun k a=>.inl a) (fun k a=>?_)⟩
 · rcases a with a|rfl
   · exact .inl a
   · exact .inr ⟨hlt,fun m=>by have:=hs.mlt m;omega⟩
 · rcases a with a|rfl
   · exact .inl a
   · exact .inr (by omega)
theorem ev_let (d:Nat) (ih:XEv d) (C:EC) (n:Nd) (v:Value) (cb mb:Nat) (A:Nat→Prop) (w:World) (rv:Value) (ts:List Tr) (env:VEnv) (N:Nat) (fuel active:Int) (hd:fuel.toNat < d+1) (h0:0 < fuel∧fuel≤1000000) (hac:0≤active∧active≤30) (htl:(ts.length:Int)+fuel≤2000000) (hN:N+sizeN n≤100000) (h84:n.kind=84) (hf:formedN n=true) (hc:CallsOk C.lib n) (hel:EnvLen env) (hv:NdAt A w v n) (hst:EvSt C cb A w rv ts fuel active) (hen:EnvAt A w mb env N):
 Calls Tryd.prog 65 #[.pointer (some ⟨C.ev,0,none⟩),v,.map (some mb),.pointer (some ⟨cb,0,none⟩)] w (EPost C cb A w rv ts active (evalN apI C.lib (d+1) n env fuel active)):=by
 obtain ⟨hok,hlen,ka,kc,rfl,hk⟩:=hv.open
 have hk3:=formed_let hf h84
 have HX:Hid (evalN apI C.lib (d+1) n env fuel active=(let x:=evalN apI C.lib d (at' n.kids 0) env (fuel - 1) active
  if x.err≠0 then ⟨noVl,x.err,x.fuel,x.calls⟩
  else
   let y:=evalN apI C.lib d (at' n.kids 1) (env.put n.name x.val) x.fuel active
   ⟨y.val,y.err,y.fuel,x.calls ++ y.calls⟩)):=Lib.hid (by
  obtain ⟨k,num,name,kids⟩:=n
  have h84':k=84:=h84
  rw [evalN,if_neg (by omega),if_neg (by omega),if_neg (by omega),if_neg (by omega),if_pos h84'];rfl)
 have hS0:=hst.below (bel_alloc (x:=.cells #[.bool false,.int .i64 0,.slice none 0 0] 40) (bel_alloc (x:=.cells #[.int .u8 n.kind,.int .i64 n.num,.string n.name,.slice ka n.kids.length kc] 66) (Below.refl _ _)))
 have e1:=cell_blk hS0.ev 1 rfl
 have f1:=unfrozen hS0.ev
 obtain ⟨w1,w2,w3,w4⟩:=ew_start hst (.cells #[.int .u8 n.kind,.int .i64 n.num,.string n.name,.slice ka n.kids.length kc] 66) (.cells #[.bool false,.int .i64 0,.slice none 0 0] 40) (fuel - 1)
 obtain ⟨b,off,cap,ka0,kc0,he,_,_,_,q0,q1,q2,q3,hnd0⟩:=(hk.stays (hst.stays w4)).at (j:=0) (by omega)
 simp only [Value.slice.injEq] at he
 obtain ⟨rfl,-,rfl⟩:=he
 simp only [Nat.zero_mul,Nat.add_zero] at q0 q1 q2 q3
 have hsz:=size_kid n 0 (by omega)
 have HC0:=Lib.hid (ih C (at' n.kids 0) _ cb mb A _ rv ts env N (fuel - 1) active (by omega) (by omega) hac (by omega) (by omega) (formed_kid hf (by omega)) (hc.kid (by omega)) hel hnd0 w1 (hen.stays (hst.stays w4)))
 have HK:=Lib.hid hk
 have HST:=Lib.hid hst
 have HEN:=Lib.hid hen
 have HW2:=Lib.hid w2
 have HW3:=Lib.hid w3
 have HW4:=Lib.hid w4
 obtain ⟨n0,n1,n2,n3⟩:=cells4 w2
 have d0:¬ fuel≤0:=by omega
 have hwr:IntKind.i64.wrap (fuel - 1)=fuel - 1:=by rw [IntKind.wrap_i64];omega
 have d80:(n.kind == 80)=false:=by simp [h84]
 have d81:(n.kind == 81)=false:=by simp [h84]
 have d83:(n.kind == 83)=false:=by simp [h84]
 have d84:(n.kind == 84)=true:=by simpa using h84
 have hsn:=hok.2.2
 have hxl:=(eval_len apI C.lib d (at' n.kids 0) env (fuel - 1) active hel).1
 have i0:(0:Int) < (n.kids.length:Int):=by omega
 have i1:(1:Int) < (n.kids.length:Int):=by omega
 have HK3:=Lib.hid hk3
 clear hst hen hS0 h84 w1 w2 w3 w4 hk hnd0 hk3
 go_enter Tryd.func65,Tryd.ntmps65
 have hleft:=eval_left C.lib d (at' n.kids 0) env (fuel - 1) active hac
 generalize evalN apI C.lib d (at' n.kids 0) env (fuel - 1) active=x at HC0 HX hleft hxl
 have hna:¬ A (w.heap.size+1):=fun a=>by have:=HST.out.alt _ a;omega
 have hnm:¬ MuE C cb rv (w.heap.size+1):=fun m=>by have:=HST.out.mlt m;omega
 have hna0:¬ A w.heap.size:=fun a=>by have:=HST.out.alt _ a;omega
 have hnm0:¬ MuE C cb rv w.heap.size:=fun m=>by have:=HST.out.mlt m;omega
 go_wp2_with fail
 refine HC0.out.mono ?_
 rintro e w5 ⟨A1,rv1,v1,rfl,hv1,hs1,ht1⟩
 obtain ⟨a1,c1,rfl,hn1,hr1⟩:=hv1
 have HV1:Hid (VlAt A1 w5 (.agg #[.bool x.val.list,.int .i64 x.val.n,.slice a1 x.val.l.length c1]) x.val):=Lib.hid ⟨a1,c1,rfl,hn1,hr1⟩
 obtain ⟨z5,hz5a,hz5m⟩:=ht1.own HW3.out hna hnm
 obtain ⟨n5,_,_⟩:=ht1.own HW2.out hna0 hnm0
 have HT5:=Lib.hid (HW4.out.trans ht1)
 have H52:Hid (w.heap.size+1 < w5.heap.size):=Lib.hid (Array.getElem?_eq_some_iff.1 z5).1
 have HS5:=Lib.hid hs1
 have hX6:Below w5.heap.size w5 (w5.alloc (.cells #[.bool x.val.list,.int .i64 x.val.n,.slice a1 x.val.l.length c1] 40)):=bel_alloc (Below.refl _ _)
 have HZ6:=Lib.hid (blk_below hX6 z5)
 have HN6:=Lib.hid (blk_below hX6 n5)
 have HS6:=Lib.hid (hs1.below hX6)
 have HT6:=Lib.hid ((HW4.out.trans ht1).below hX6)
 have HE5:=Lib.hid (HEN.out.stays (HST.out.stays (HW4.out.trans ht1)))
 clear e1 f1 q0 q1 q2 q3 n0 n1 n2 n3 hs1 ht1 z5 n5 hr1 HC0
 by_cases hx:x.err=0
 · have dx:(x.err == 0)=true:=by simp [hx]
   have dx':(x.err != 0)=false:=by simp [hx]
   obtain ⟨hmA,m,hm5,ho5⟩:=HE5.out
   obtain ⟨es,clock,hob⟩:=hm5.obj
   have hm6:=hm5.below hX6
   obtain ⟨es,clock,hob6⟩:=hm6.obj
   go_wp2_with fail
   refine (clone_any mb es clock _ hob6).mono ?_
   rintro e w7 ⟨rfl,rfl⟩
   have hb7:(w5.alloc (.cells #[.bool x.val.list,.int .i64 x.val.n,.slice a1 x.val.l.length c1] 40)).heap.size=w5.heap.size+1:=Array.size_push _
   have hX67:Below (w5.alloc (.cells #[.bool x.val.list,.int .i64 x.val.n,.slice a1 x.val.l.length c1] 40)).heap.size (w5.alloc (.cells #[.bool x.val.list,.int .i64 x.val.n,.slice a1 x.val.l.length c1] 40)) ((w5.alloc (.cells #[.bool x.val.list,.int .i64 x.val.n,.slice a1 x.val.l.length c1] 40)).alloc (.map es clock)):=bel_alloc (Below.refl _ _)
   have hX7:Below w5.heap.size w5 ((w5.alloc (.cells #[.bool x.val.list,.int .i64 x.val.n,.slice a1 x.val.l.length c1] 40)).alloc (.map es clock)):=bel_alloc hX6
   have HM7:=Lib.hid (hm6.copy (w':=(w5.alloc (.cells #[.bool x.val.list,.int .i64 x.val.n,.slice a1 x.val.l.length c1] 40)).alloc (.map es clock)) (b':=w5.heap.size+1) (by rw [hob6];exact blk_new hb7.symm))
   have hbx:(w5.alloc (.cells #[.bool x.val.list,.int .i64 x.val.n,.slice a1 x.val.l.length c1] 40)).heap[w5.heap.size]?=some (.cells #[.bool x.val.list,.int .i64 x.val.n,.slice a1 x.val.l.length c1] 40):=blk_new rfl
   have hbx7:=blk_below hX67 hbx
   have hn7:=blk_below hX67 HN6.out
   obtain ⟨n0,n1,n2,n3⟩:=cells4 hn7
   obtain ⟨b0,b1,b2⟩:=cells3 hbx7
   have HZ7:=Lib.hid (blk_below hX67 HZ6.out)
   have HN7:=Lib.hid hn7
   clear hbx hbx7 hn7 hob hob6 hm6 hX67
   generalize (w5.alloc (.cells #[.bool x.val.list,.int .i64 x.val.n,.slice a1 x.val.l.length c1] 40)).alloc (.map es clock)=w7 at *
   go_wp2_with (refine wpl_ins MVl rfl (.tmp 107) (.tmp 109) (.tmp 110) (.inr rfl) rfl rfl rfl (by exact HM7.out) hsn (by unfold maxLen;omega) ?_)
   intro w8 hm8 hg8
   have hk7:Keeps w7 w8 (fun k=>k=w5.heap.size+1):=Keeps.of_grown hg8 (fun k e=>.inl (by cases e;rfl))
   have hk8:Keeps w5 w8 (fun k=>k=w5.heap.size+1):=(Keeps.of_below _ hX7).same hk7
   obtain ⟨hs8,ht8⟩:=let_state HS5.out HT5.out hk8 (by omega) hm8.lt
   have h52:=H52.out
   have hn8:=(hk7.block _ (by have:=HN7.out;rw [Array.getElem?_eq_some_iff] at this;exact this.1) (by omega)).trans HN7.out
   have hz8:=(hk7.block _ (by have:=HZ7.out;rw [Array.getElem?_eq_some_iff] at this;exact this.1) (by omega)).trans HZ7.out
   have hst8:=HS5.out.stays (show EStep C cb A1 w5 rv1 (fun k=>A1 k∨k=w5.heap.size+1) w8 rv1 from (let_state HS5.out (EStep.refl C cb A1 w5 rv1) hk8 (by omega) hm8.lt).2)
   have he8:EnvAt (fun k=>A1 k∨k=w5.heap.size+1) w8 (w5.heap.size+1) (env.put n.name x.val) (N+1):=EnvOf.at (.inr rfl) hm8 ((EnvOf.stays ho5 hst8).put n.name (HV1.out.stays hst8))
   have hk8':=(HK.out.stays (HST.out.stays HT5.out)).stays hst8
   obtain ⟨b',off',cap',ka1,kc1,he,_,_,_,q0,q1,q2,q3,hnd2⟩:=hk8'.at (j:=1) (by omega)
   simp only [Value.slice.injEq,Option.some.injEq,Addr.mk.injEq,and_true] at he
   obtain ⟨⟨rfl,rfl⟩,-,rfl⟩:=he
   simp only [Nat.one_mul] at q0 q1 q2 q3
   have hsz2:=size_kid n 1 (by omega)
   have hcl:=calls_len ts x.calls C.tr
   have HC2:=Lib.hid (ih C (at' n.kids 1) _ cb (w5.heap.size+1) _ _ rv1 _ (env.put n.name x.val) (N+1) x.fuel active (by omega) (by omega) hac (by omega) (by omega) (formed_kid hf (by omega)) (hc.kid (by omega)) (hel.put n.name hxl) hnd2 hs8 he8)
   have HX1:Hid (evalN apI C.lib (d+1) n env fuel active=⟨(evalN apI C.lib d (at' n.kids 1) (env.put n.name x.val) x.fuel active).val,(evalN apI C.lib d (at' n.kids 1) (env.put n.name x.val) x.fuel active).err,(evalN apI C.lib d (at' n.kids 1) (env.put n.name x.val) x.fuel active).fuel,x.calls ++ (evalN apI C.lib d (at' n.kids 1) (env.put n.name x.val) x.fuel active).calls⟩):=Lib.hid (by rw [HX.out];simp [hx])
   obtain ⟨m0,m1,m2,m3⟩:=cells4 hn8
   have HZ8:=Lib.hid hz8
   have HT8:=Lib.hid ht8
   have hnb:¬ (A1 (w.heap.size+1)∨w.heap.size+1=w5.heap.size+1):=fun a=>by
    rcases a with a|a
    · exact hz5a a
    · omega
   clear h52 hnd2 hsz2 hcl hs8 ht8 hst8 he8 hk8' hn8 hz8 n0 n1 n2 n3 b0 b1 b2 hm8 hg8 hk7 hk8
   generalize evalN apI C.lib d (at' n.kids 1) (env.put n.name x.val) x.fuel active=y at HC2 HX1
   go_wp2_with fail
   refine HC2.out.mono ?_
   rintro e w9 ⟨A2,rv2,v2,rfl,hv2,hs2,ht2⟩
   obtain ⟨a2,c2,rfl,hn2,hr2⟩:=hv2
   obtain ⟨z9,hz9a,hz9m⟩:=ht2.own HZ8.out hnb hz5m
   have HS2:=Lib.hid hs2
   have HT2:=Lib.hid (HT8.out.trans ht2)
   have HR2:=Lib.hid hr2
   have HZ9:=Lib.hid z9
   obtain ⟨z0,z1,z2⟩:=cells3 HZ9.out
   have zf:=unfrozen HZ9.out
   clear hs2 ht2 hr2 z9 m0 m1 m2 m3 q0 q1 q2 q3
   go_wp2
   (try simp only [Exit.inBlock,Exit.then])
   refine bodyPost_ret (results_cell_row2 (P:=Tryd.prog) rfl _ _ (w.heap.size+1) _ _ _ _ _ rfl (set3 HZ9.out _ _ _) rfl Tryd.underlying40 rfl (by kernel_rfl)) rfl ?_
   rw [HX1.out]
   have h9:=HT2.out.keeps.size
   obtain ⟨r1,r2⟩:=res_sets HS2.out HT2.out (by omega) hz9a hz9m (.bool y.val.list) (.int .i64 y.val.n) (.slice a2 y.val.l.length c2)
   exact ⟨A2,rv2,_,rfl,(show VlAt A2 w9 _ y.val from ⟨a2,c2,rfl,hn2,HR2.out⟩).stays ((keeps_set3 _ (w.heap.size+1) _ _ _).stays (fun k a _ e=>hz9a (e ▸ a))),by rw [← calls_app];exact r1,r2⟩
 · have dx:(x.err == 0)=false:=by simp [hx]
   have dx':(x.err != 0)=true:=by simp [hx]
   obtain ⟨z0,z1,z2⟩:=cells3 HZ6.out
   have zf:=unfrozen HZ6.out
   go_wp2
   (try simp only [Exit.inBlock,Exit.then])
   refine bodyPost_ret (results_cell_row2 (P:=Tryd.prog) rfl _ _ (w.heap.size+1) _ _ _ _ _ rfl (set3 HZ6.out _ _ _) rfl Tryd.underlying40 rfl (by kernel_rfl)) rfl ?_
   rw [HX.out]
   simp only [ne_eq,hx,not_false_eq_true,if_true]
   obtain ⟨r1,r2⟩:=res_sets HS6.out HT6.out (by omega) hz5a hz5m (.bool false) (.int .i64 0) (.slice none 0 0)
   exact ⟨A1,rv1,_,rfl,vl_no _,r1,r2⟩
end Go.Proofs.YtjhimhlebbamoaaDoor
/- The loop over kids,in plain Lean:the state behind q kids. -/
namespace Go.Proofs.YtjhimhlebbamoaaDoor
open Go.RowKit
theorem TTree:RowT Tryd.prog 41 43 (.agg #[.int .i64 0,.slice none 0 0,.bool false,.int .i64 0,.slice none 0 0,.slice none 0 0]) 6 96:=⟨Tryd.underlying41,by kernel_rfl⟩
def KidsTo (f:Nd→Int→ER) (l:List Nd) (fuel:Int) (q:Nat) (vals:List Vl) (f':Int) (cs:List Tr):Prop:=
 vals.length=q∧evalL f l fuel=(if (evalL f (l.drop q) f').err≠0 then ⟨vals ++ (evalL f (l.drop q) f').vals,(evalL f (l.drop q) f').err,(evalL f (l.drop q) f').fuel,cs ++ (evalL f (l.drop q) f').calls⟩
  else ⟨vals ++ (evalL f (l.drop q) f').vals,0,(evalL f (l.drop q) f').fuel,cs ++ (evalL f (l.drop q) f').calls⟩)
theorem KidsTo.start (f:Nd→Int→ER) (l:List Nd) (fuel:Int):KidsTo f l fuel 0 [] fuel []:=by
 refine ⟨rfl,?_⟩
 rw [List.drop_zero]
 by_cases h:(evalL f l fuel).err=0
 · rw [if_neg (fun a=>a h)]
   simp only [List.nil_append]
   rw [← h]
 · rw [if_pos h];simp only [List.nil_append]
theorem KidsTo.read {f:Nd→Int→ER} {l:List Nd} {fuel f':Int} {q:Nat} {vals:List Vl} {cs:List Tr} (h:KidsTo f l fuel q vals f' cs):
 evalL f l fuel=⟨vals ++ (evalL f (l.drop q) f').vals,(evalL f (l.drop q) f').err,(evalL f (l.drop q) f').fuel,cs ++ (evalL f (l.drop q) f').calls⟩:=by
 rw [h.2]
 by_cases e:(evalL f (l.drop q) f').err=0
 · rw [if_neg (fun a=>a e),e]
 · rw [if_pos e]
theorem KidsTo.mk' {f:Nd→Int→ER} {l:List Nd} {fuel f':Int} {q:Nat} {vals:List Vl} {cs:List Tr} (h0:vals.length=q)
 (h:evalL f l fuel=⟨vals ++ (evalL f (l.drop q) f').vals,(evalL f (l.drop q) f').err,(evalL f (l.drop q) f').fuel,cs ++ (evalL f (l.drop q) f').calls⟩):KidsTo f l fuel q vals f' cs:=by
 refine ⟨h0,?_⟩
 rw [h]
 by_cases e:(evalL f (l.drop q) f').err=0
 · rw [if_neg (fun a=>a e),e]
 · rw [if_pos e]
theorem drop_at {l:List Nd} {q:Nat} (hq:q < l.length):l.drop q=at' l q :: l.drop (q+1):=by
 rw [List.drop_eq_getElem_cons hq,at_eq hq]
theorem KidsTo.step {f:Nd→Int→ER} {l:List Nd} {fuel f':Int} {q:Nat} {vals:List Vl} {cs:List Tr} (h:KidsTo f l fuel q vals f' cs) (hq:q < l.length) (he:(f (at' l q) f').err=0):
 KidsTo f l fuel (q+1) (vals ++ [(f (at' l q) f').val]) (f (at' l q) f').fuel (cs ++ (f (at' l q) f').calls):=by
 refine KidsTo.mk' (by rw [List.length_append,h.1];rfl) ?_
 rw [h.read,drop_at hq,evalL]
 simp [he]
theorem KidsTo.fails {f:Nd→Int→ER} {l:List Nd} {fuel f':Int} {q:Nat} {vals:List Vl} {cs:List Tr} (h:KidsTo f l fuel q vals f' cs) (hq:q < l.length) (he:(f (at' l q) f').err≠0):
 (evalL f l fuel).err=(f (at' l q) f').err∧(evalL f l fuel).fuel=(f (at' l q) f').fuel∧(evalL f l fuel).calls=cs ++ (f (at' l q) f').calls:=by
 rw [h.read,drop_at hq,evalL]
 simp [he]
theorem KidsTo.done {f:Nd→Int→ER} {l:List Nd} {fuel f':Int} {vals:List Vl} {cs:List Tr} (h:KidsTo f l fuel l.length vals f' cs):evalL f l fuel=⟨vals,0,f',cs⟩:=by
 rw [h.read,List.drop_length,evalL]
 simp
end Go.Proofs.YtjhimhlebbamoaaDoor
/- The loop over kids:the state behind q kids,in the heap. No function of the program is walked here. -/
namespace Go.Proofs.YtjhimhlebbamoaaDoor
open Go.RowKit
structure KRow (C:EC) (cb:Nat) (A:Nat→Prop) (rv:Value) (B:Nat) (X Z:Obj) (w1:World) (rw:Value) (vals:List Vl):Prop where
 row:RowsOwn VlE 40 A (B+2) w1 rw vals
 nA:∀ k,rw.ownBlock=some k→¬ A k
 nM:∀ k,rw.ownBlock=some k→¬ MuE C cb rv k
 x:w1.heap[B]?=some X
 z:w1.heap[B+1]?=some Z
 xA:¬ A B
 zA:¬ A (B+1)
 xM:¬ MuE C cb rv B
 zM:¬ MuE C cb rv (B+1)
theorem KRow.lt {C:EC} {cb:Nat} {A:Nat→Prop} {rv:Value} {B:Nat} {X Z:Obj} {w1:World} {rw:Value} {vals:List Vl} (h:KRow C cb A rv B X Z w1 rw vals):B+1 < w1.heap.size:=by
 have h:=h.z
 rw [Array.getElem?_eq_some_iff] at h;exact h.1
theorem KRow.below {C:EC} {cb:Nat} {A:Nat→Prop} {rv:Value} {B:Nat} {X Z:Obj} {w1 w2:World} {rw:Value} {vals:List Vl} (h:KRow C cb A rv B X Z w1 rw vals) (hb:Below w1.heap.size w1 w2):KRow C cb A rv B X Z w2 rw vals:=
 { h with row:=h.row.below hb,x:=blk_below hb h.x,z:=blk_below hb h.z }
theorem KRow.step {C:EC} {cb:Nat} {A A2:Nat→Prop} {rv rv2:Value} {B:Nat} {X Z:Obj} {w1 w2:World} {rw:Value} {vals:List Vl} (h:KRow C cb A rv B X Z w1 rw vals) (hm:∀ k,MuE C cb rv k→¬ A k) (ht:EStep C cb A w1 rv A2 w2 rv2):KRow C cb A2 rv2 B X Z w2 rw vals:=by
 have hl:=h.lt
 have hn:∀ g,g < w1.heap.size→¬ MuE C cb rv g→¬ MuE C cb rv2 g:=fun g hg hM m=>by
  rcases m.new ht.nrv with a|a
  · exact hM a
  · omega
 have ha:∀ g,g < w1.heap.size→¬ A g→¬ A2 g:=fun g hg hA a=>by
  rcases ht.new g a with a|a
  · exact hA a
  · omega
 exact {
  row:=(h.row.keeps ht.keeps (fun k e=>h.nM k e) (fun k _ a m=>hm k m a)).mono ht.up
  nA:=fun k e=>ha k (h.row.lt e).2 (h.nA k e)
  nM:=fun k e=>hn k (h.row.lt e).2 (h.nM k e)
  x:=(ht.keeps.block _ (by omega) h.xM).trans h.x
  z:=(ht.keeps.block _ (by omega) h.zM).trans h.z
  xA:=ha _ (by omega) h.xA
  zA:=ha _ (by omega) h.zA
  xM:=hn _ (by omega) h.xM
  zM:=hn _ (by omega) h.zM }
theorem KRow.more {C:EC} {cb:Nat} {A:Nat→Prop} {rv:Value} {B:Nat} {X Z:Obj} {w1:World} {rw:Value} {vals:List Vl} (h:KRow C cb A rv B X Z w1 rw vals) {g:Nat} (hg:B+1 < g) (hr:∀ k,rw.ownBlock=some k→k≠g):KRow C cb (fun k=>A k∨k=g) rv B X Z w1 rw vals:=
 { h with
   row:=h.row.mono (fun k a=>.inl a)
   nA:=fun k e a=>by
    rcases a with a|a
    · exact h.nA k e a
    · exact hr k e a
   xA:=fun a=>by
    rcases a with a|a
    · exact h.xA a
    · omega
   zA:=fun a=>by
    rcases a with a|a
    · exact h.zA a
    · omega }
theorem KRow.start {C:EC} {cb:Nat} {A:Nat→Prop} {rv:Value} {ts:List Tr} {fuel active:Int} {w w1:World} {X Z:Obj} (h:EvSt C cb A w rv ts fuel active) (hx:w1.heap[w.heap.size]?=some X) (hz:w1.heap[w.heap.size+1]?=some Z):KRow C cb A rv w.heap.size X Z w1 (.slice none 0 0) [] where
 row:=RowsOwn.nil _ _ _ _ _
 nA:=nofun
 nM:=nofun
 x:=hx
 z:=hz
 xA:=fun a=>by have:=h.alt _ a;omega
 zA:=fun a=>by have:=h.alt _ a;omega
 xM:=fun m=>by have:=h.mlt m;omega
 zM:=fun m=>by have:=h.mlt m;omega
def KLoop (C:EC) (d:Nat) (cb:Nat) (A:Nat→Prop) (w:World) (rv:Value) (ts:List Tr) (env:VEnv) (fuel active:Int) (n:Nd) (X Z:Obj) (q:Nat) (rw:Value) (w1:World):Prop:=
 q≤n.kids.length∧∃ (A1:Nat→Prop) (rv1:Value) (vals:List Vl) (f':Int) (cs:List Tr),KidsTo (fun n f=>evalN apI C.lib d n env f active) n.kids (fuel - 1) q vals f' cs∧f'≤fuel - 1∧(cs.length:Int)≤fuel - 1 - f'∧
  EvSt C cb A1 w1 rv1 (ts ++ (if C.tr then cs else [])) f' active∧EStep C cb A w rv A1 w1 rv1∧KRow C cb A1 rv1 w.heap.size X Z w1 rw vals∧∀ v ∈ vals,VLen v
theorem kl_start {C:EC} {d cb:Nat} {A:Nat→Prop} {w w1:World} {rv:Value} {ts:List Tr} {env:VEnv} {fuel active:Int} {n:Nd} {X Z:Obj} (hst:EvSt C cb A w rv ts fuel active) (h1:EvSt C cb A w1 rv ts (fuel - 1) active) (h2:EStep C cb A w rv A w1 rv) (hx:w1.heap[w.heap.size]?=some X) (hz:w1.heap[w.heap.size+1]?=some Z):
 KLoop C d cb A w rv ts env fuel active n X Z 0 (.slice none 0 0) w1:=
 ⟨Nat.zero_le _,A,rv,[],fuel - 1,[],KidsTo.start _ _ _,Int.le_refl _,by simp,by rw [calls_nil];exact h1,h2,KRow.start hst hx hz,fun v h=>by simp at h⟩
theorem kl_lit {C:EC} {cb:Nat} {A A2:Nat→Prop} {w w5 w7:World} {rv rv2:Value} {ts:List Tr} {f active:Int} {X Z:Obj} {rw:Value} {vals:List Vl} {g:Nat} {cs:Array Value} {x:Vl} (hs:EvSt C cb A2 w5 rv2 ts f active) (ht:EStep C cb A w rv A2 w5 rv2) (hr:KRow C cb A2 rv2 w.heap.size X Z w5 rw vals) (hb:Below w5.heap.size w5 w7) (hg:w7.heap[g]?=some (.cells cs 40 (0,0))) (hge:w5.heap.size≤g) (hsz:cs.size=3) (hc:VlC A2 w5 (fun i=>cs.getD i undef) x):
 EvSt C cb (fun k=>A2 k∨k=g) w7 rv2 ts f active∧EStep C cb A w rv (fun k=>A2 k∨k=g) w7 rv2∧KRow C cb (fun k=>A2 k∨k=g) rv2 w.heap.size X Z w7 rw vals∧RowsAt VlE (fun k=>A2 k∨k=g) w7 (.slice (some ⟨g,0,none⟩) 1 1) [x]:=by
 have hlt:g < w7.heap.size:=by rw [Array.getElem?_eq_some_iff] at hg;exact hg.1
 have h0:=ht.keeps.size
 have hl:=hr.lt
 refine ⟨(hs.below hb).more (fun k a=>.inl a) (fun k a=>?_),(ht.below hb).more (fun k a=>.inl a) (fun k a=>?_),(hr.below hb).more (by omega) (fun k e=>by have:=(hr.row.lt e).2;omega),?_⟩
 · rcases a with a|rfl
   · exact .inl a
   · exact .inr ⟨hlt,fun m=>by have:=hs.mlt m;omega⟩
 · rcases a with a|rfl
   · exact .inl a
   · exact .inr (by omega)
 · refine rows_1 hg (.inr rfl) hsz ?_
   have hst:Stays A2 (fun k=>A2 k∨k=g) w5 w7:=⟨hb.size,fun b h a=>⟨hb.block b h,.inl a⟩⟩
   exact (hc.stays hst:VlC _ _ _ _)
theorem KRow.apart {C:EC} {cb:Nat} {A:Nat→Prop} {rv:Value} {B:Nat} {X Z:Obj} {w1:World} {rw:Value} {vals:List Vl} (h:KRow C cb A rv B X Z w1 rw vals):∀ b,b < w1.heap.size→A b→A b∧rw.ownBlock≠some b:=fun b _ a=>⟨a,fun e=>h.nA b e a⟩
theorem kl_next {C:EC} {d cb:Nat} {A A3:Nat→Prop} {w w7 w8:World} {rv rv2:Value} {ts:List Tr} {env:VEnv} {fuel active:Int} {n:Nd} {X Z:Obj} {q:Nat} {rw rw':Value} {vals:List Vl} {f':Int} {cs:List Tr}
 (hK:KidsTo (fun n f=>evalN apI C.lib d n env f active) n.kids (fuel - 1) q vals f' cs) (hq:q < n.kids.length) (hf:f'≤fuel - 1) (hcs:(cs.length:Int)≤fuel - 1 - f') (hac:0≤active∧active≤30) (hel:EnvLen env) (he:(evalN apI C.lib d (at' n.kids q) env f' active).err=0)
 (hs:EvSt C cb A3 w7 rv2 ((ts ++ (if C.tr then cs else [])) ++ (if C.tr then (evalN apI C.lib d (at' n.kids q) env f' active).calls else [])) (evalN apI C.lib d (at' n.kids q) env f' active).fuel active) (ht:EStep C cb A w rv A3 w7 rv2) (hr:KRow C cb A3 rv2 w.heap.size X Z w7 rw vals) (hv:∀ v ∈ vals,VLen v)
 (hown:RowsOwn VlE 40 A3 (w.heap.size+2) w8 rw' (vals ++ [(evalN apI C.lib d (at' n.kids q) env f' active).val])) (hg:w7.grownBy w8 rw.ownBlock) (hn:NewOr w7 rw rw'):
 KLoop C d cb A w rv ts env fuel active n X Z (q+1) rw' w8:=by
 have hleft:=eval_left C.lib d (at' n.kids q) env f' active hac
 have hlen:=(eval_len apI C.lib d (at' n.kids q) env f' active hel).1
 have hk:Keeps w7 w8 (fun k=>rw.ownBlock=some k):=Keeps.of_grown hg (fun k e=>.inl e)
 have hl:=hr.lt
 have hx0:∀ k,rw'.ownBlock=some k→¬ A3 k∧¬ MuE C cb rv2 k:=fun k e=>by
  rcases hn k e with e|e
  · exact ⟨hr.nA k e,hr.nM k e⟩
  · exact ⟨fun a=>by have:=hs.alt k a;omega,fun m=>by have:=hs.mlt m;omega⟩
 refine ⟨hq,A3,rv2,_,_,_,hK.step hq he,by omega,by rw [List.length_append];omega,?_,ht.young hk (fun k e=>by have:=(hr.row.lt e).1;omega),?_,fun v hm=>?_⟩
 · rw [calls_app] at hs
   exact hs.keeps hk (fun k a e=>hr.nA k e a) (fun k m e=>hr.nM k e m)
 · exact {
    row:=hown
    nA:=fun k e=>(hx0 k e).1
    nM:=fun k e=>(hx0 k e).2
    x:=(hk.block _ (by omega) (fun e=>by have:=(hr.row.lt e).1;omega)).trans hr.x
    z:=(hk.block _ hl (fun e=>by have:=(hr.row.lt e).1;omega)).trans hr.z
    xA:=hr.xA
    zA:=hr.zA
    xM:=hr.xM
    zM:=hr.zM }
 · rcases List.mem_append.1 hm with hm|hm
   · exact hv v hm
   · simp only [List.mem_singleton] at hm;subst hm;exact hlen
theorem kl_shut {C:EC} {cb:Nat} {A A1:Nat→Prop} {w w1:World} {rv rv1:Value} {ts:List Tr} {f active:Int} {X Z:Obj} {rw:Value} {vals:List Vl} (hs:EvSt C cb A1 w1 rv1 ts f active) (ht:EStep C cb A w rv A1 w1 rv1) (hr:KRow C cb A1 rv1 w.heap.size X Z w1 rw vals) (hl:vals.length≤maxLen):
 EvSt C cb (fun k=>A1 k∨rw.ownBlock=some k) w1 rv1 ts f active∧EStep C cb A w rv (fun k=>A1 k∨rw.ownBlock=some k) w1 rv1∧RowsAt VlE (fun k=>A1 k∨rw.ownBlock=some k) w1 rw vals∧¬ (A1 w.heap.size∨rw.ownBlock=some w.heap.size)∧¬ (A1 (w.heap.size+1)∨rw.ownBlock=some (w.heap.size+1)):=by
 refine ⟨hs.more (fun k a=>.inl a) (fun k a=>?_),ht.more (fun k a=>.inl a) (fun k a=>?_),hr.row.shut (fun k a=>.inl a) (fun k e=>.inr e) hl,fun a=>?_,fun a=>?_⟩
 · rcases a with a|a
   · exact .inl a
   · exact .inr ⟨(hr.row.lt a).2,hr.nM k a⟩
 · rcases a with a|a
   · exact .inl a
   · exact .inr (by have:=(hr.row.lt a).1;omega)
 · rcases a with a|a
   · exact hr.xA a
   · have:=(hr.row.lt a).1;omega
 · rcases a with a|a
   · exact hr.zA a
   · have:=(hr.row.lt a).1;omega
def NewS (A:Nat→Prop) (w w':World) (k:Nat):Prop:=A k∨w.heap.size≤k∧k < w'.heap.size
theorem kl_new {C:EC} {cb:Nat} {A A1:Nat→Prop} {w w1 w5:World} {rv rv1:Value} {ts:List Tr} {f active:Int} (hs:EvSt C cb A1 w1 rv1 ts f active) (ht:EStep C cb A w rv A1 w1 rv1) (hb:Below w1.heap.size w1 w5):
 EvSt C cb (NewS A1 w1 w5) w5 rv1 ts f active∧EStep C cb A w rv (NewS A1 w1 w5) w5 rv1∧Stays (NewB A1 w1) (NewS A1 w1 w5) w5 w5:=by
 have h0:=ht.keeps.size
 refine ⟨(hs.below hb).more (fun k a=>.inl a) (fun k a=>?_),(ht.below hb).more (fun k a=>.inl a) (fun k a=>?_),⟨Nat.le_refl _,fun b hb a=>⟨rfl,?_⟩⟩⟩
 · rcases a with a|a
   · exact .inl a
   · exact .inr ⟨a.2,fun m=>by have:=hs.mlt m;omega⟩
 · rcases a with a|a
   · exact .inl a
   · exact .inr (by omega)
 · rcases a with a|a
   · exact .inl a
   · exact .inr ⟨a,hb⟩
end Go.Proofs.YtjhimhlebbamoaaDoor
