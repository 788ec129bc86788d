/- Contracts and plain lemmas (FevZ): no statement of the seat is proved here. -/
import Derived.Test.YtjhimhlebbamoaaDoorZq11
/- Walks of package funeval:expr at an operation or a call:the loop over kids. -/
set_option linter.unusedSimpArgs false
set_option linter.unusedVariables false
set_option linter.unusedSectionVars false
set_option maxRecDepth 100000
set_option maxHeartbeats 3200000
namespace Go.Proofs.YtjhimhlebbamoaaDoor
open Go.RowKit
theorem eval_op {d:Nat} {lib:List Fn} {n:Nd} {env:VEnv} {fuel active:Int} (h0:0 < fuel) (h80:n.kind≠80) (h81:n.kind≠81) (h83:n.kind≠83) (h84:n.kind≠84) (h85:n.kind≠85):
 evalN apI lib (d+1) n env fuel active=(let r:=evalL (fun n f=>evalN apI lib d n env f active) n.kids (fuel - 1)
  if r.err≠0 then ⟨noVl,r.err,r.fuel,r.calls⟩ else ⟨(operateN apI n.kind n.num r.vals).1,(operateN apI n.kind n.num r.vals).2,r.fuel,r.calls⟩):=by
 obtain ⟨k,num,name,kids⟩:=n
 simp only [Nd.kind,Nd.kids,Nd.num] at *
 rw [evalN,if_neg (by omega),if_neg h80,if_neg h81,if_neg h83,if_neg h84]
 simp only [ne_eq,h85,not_false_eq_true,if_true]
 rfl
theorem eval_err {d:Nat} {lib:List Fn} {n:Nd} {env:VEnv} {fuel active:Int} (h0:0 < fuel) (h80:n.kind≠80) (h81:n.kind≠81) (h83:n.kind≠83) (h84:n.kind≠84) (he:(evalL (fun n f=>evalN apI lib d n env f active) n.kids (fuel - 1)).err≠0):
 evalN apI lib (d+1) n env fuel active=⟨noVl,(evalL (fun n f=>evalN apI lib d n env f active) n.kids (fuel - 1)).err,(evalL (fun n f=>evalN apI lib d n env f active) n.kids (fuel - 1)).fuel,(evalL (fun n f=>evalN apI lib d n env f active) n.kids (fuel - 1)).calls⟩:=by
 obtain ⟨k,num,name,kids⟩:=n
 simp only [Nd.kind,Nd.kids] at *
 rw [evalN,if_neg (by omega),if_neg h80,if_neg h81,if_neg h83,if_neg h84]
 simp only [if_pos he]
theorem ev_op (d:Nat) (ih:XEv d) (C:EC) (n:Nd) (v:Value) (cb mb:Nat) (A:Nat→Prop) (w:World) (rv:Value) (ts:List Tr) (env:VEnv) (N:Nat) (fuel active:Int) (hd:fuel.toNat < d+1) (h0:0 < fuel∧fuel≤1000000) (hac:0≤active∧active≤30) (htl:(ts.length:Int)+fuel≤2000000) (hN:N+sizeN n≤100000) (h80:n.kind≠80) (h81:n.kind≠81) (h83:n.kind≠83) (h84:n.kind≠84) (h85:n.kind≠85) (hf:formedN n=true) (hc:CallsOk C.lib n) (hel:EnvLen env) (hv:NdAt A w v n) (hst:EvSt C cb A w rv ts fuel active) (hen:EnvAt A w mb env N):
 Calls Tryd.prog 65 #[.pointer (some ⟨C.ev,0,none⟩),v,.map (some mb),.pointer (some ⟨cb,0,none⟩)] w (EPost C cb A w rv ts active (evalN apI C.lib (d+1) n env fuel active)):=by
 have HV:=Lib.hid hv
 obtain ⟨hok,hlen,ka,kc,rfl,hk⟩:=hv.open
 unfold maxLen at hlen
 have hS0:=hst.below (bel_alloc (x:=.cells #[.bool false,.int .i64 0,.slice none 0 0] 40) (bel_alloc (x:=.cells #[.int .u8 n.kind,.int .i64 n.num,.string n.name,.slice ka n.kids.length kc] 66) (Below.refl _ _)))
 have e1:=cell_blk hS0.ev 1 rfl
 have f1:=unfrozen hS0.ev
 obtain ⟨w1,w2,w3,w4⟩:=ew_start hst (.cells #[.int .u8 n.kind,.int .i64 n.num,.string n.name,.slice ka n.kids.length kc] 66) (.cells #[.bool false,.int .i64 0,.slice none 0 0] 40) (fuel - 1)
 have HKL:=Lib.hid (kl_start (d:=d) (env:=env) (n:=n) hst w1 w4 w2 w3)
 have HOP:=Lib.hid (fun he=>eval_err (d:=d) (lib:=C.lib) (env:=env) (active:=active) h0.1 h80 h81 h83 h84 he)
 have HXX:=Lib.hid (eval_op (d:=d) (lib:=C.lib) (env:=env) (active:=active) h0.1 h80 h81 h83 h84 h85)
 have HFB:Hid (formB n.kind n.num n.name n.kids.length=true):=Lib.hid (by
  obtain ⟨k,num,name,kids⟩:=n
  rw [formedN,Bool.and_eq_true] at hf;exact hf.1)
 have HNE:Hid (n.kind≠80∧n.kind≠81∧n.kind≠83∧n.kind≠84∧n.kind≠85):=Lib.hid ⟨h80,h81,h83,h84,h85⟩
 have HK:=Lib.hid hk
 have HST:=Lib.hid hst
 have HEN:=Lib.hid hen
 obtain ⟨n0,n1,n2,n3⟩:=cells4 w2
 have d0:¬ fuel≤0:=by omega
 have hwr:IntKind.i64.wrap (fuel - 1)=fuel - 1:=by rw [IntKind.wrap_i64];omega
 have d80:(n.kind == 80)=false:=by simpa using h80
 have d81:(n.kind == 81)=false:=by simpa using h81
 have d83:(n.kind == 83)=false:=by simpa using h83
 have d84:(n.kind == 84)=false:=by simpa using h84
 have d85:(n.kind == 85)=false:=by simpa using h85
 have d85':(n.kind != 85)=true:=by simpa using h85
 clear hst hen hS0 h80 h81 h83 h84 h85 w1 w2 w3 w4 hk hv
 go_enter Tryd.func65,Tryd.ntmps65
 go_wp2
 go_loopw [15,124] (fun rw i wr=>∃ q:Nat,i=.int .i64 q∧KLoop C d cb A w rv ts env fuel active n (.cells #[.int .u8 n.kind,.int .i64 n.num,.string n.name,.slice ka n.kids.length kc] 66 (0,0)) (.cells #[.bool false,.int .i64 0,.slice none 0 0] 40 (0,0)) q rw wr) (fun _ i _=>n.kids.length - (intOf i).toNat)
 case atStart=>exact ⟨0,rfl,HKL.out⟩
 case round=>
  clear HKL n0 n1 n2 n3 e1 f1
  obtain ⟨q,rfl,hq,A1,rv1,vals,f',cs,hK,hf',hcs,hs,ht,hr,hvl⟩:=hrel
  by_cases hlt:q < n.kids.length
  · obtain ⟨b,off,cap,kaq,kcq,he,_,_,_,q0,q1,q2,q3,hnd⟩:=(HK.out.stays (HST.out.stays ht)).at hlt
    simp only [Value.slice.injEq] at he
    obtain ⟨rfl,-,rfl⟩:=he
    have hA2:Below wr.heap.size wr (wr.alloc (.cells #[.int .u8 (at' n.kids q).kind,.int .i64 (at' n.kids q).num,.string (at' n.kids q).name,.slice kaq (at' n.kids q).kids.length kcq] 66)):=bel_alloc (Below.refl _ _)
    have hsz:=size_kid n q hlt
    have hcl:=calls_len ts cs C.tr
    have HC:=Lib.hid (ih C (at' n.kids q) _ cb mb A1 _ rv1 _ env N f' active (by omega) (by omega) hac (by omega) (by omega) (formed_kid hf hlt) (hc.kid hlt) hel (hnd.stays (Stays.of_below hA2)) (hs.below hA2) ((HEN.out.stays (HST.out.stays ht)).stays (Stays.of_below hA2)))
    obtain ⟨kk0,kk1,kk2,kk3⟩:=cells4 (at_new0 wr (.cells #[.int .u8 (at' n.kids q).kind,.int .i64 (at' n.kids q).num,.string (at' n.kids q).name,.slice kaq (at' n.kids q).kids.length kcq] 66))
    obtain ⟨aw,cw,rfl⟩:=hr.row.form
    have HR:=Lib.hid (hr.below hA2)
    have HS:=Lib.hid (hs.below hA2)
    have HT:=Lib.hid (ht.below hA2)
    have hkl:vals.length≤100000:=by have:=hK.1;have:=length_size n.kids;have:=sizeN_eq n;omega
    have HKT:=Lib.hid hK
    have HVL:=Lib.hid hvl
    generalize hx:evalN apI C.lib d (at' n.kids q) env f' active=x at HC
    have HXQ:=Lib.hid hx
    clear hnd hsz hcl hs ht hr hK hx hvl
    go_wp2_with fail
    refine HC.out.mono ?_
    rintro e w5 ⟨A2,rv2,v2,rfl,hv2,hs2,ht2⟩
    obtain ⟨a2,c2,rfl,hn2,hr2⟩:=hv2
    have HR2:=Lib.hid (HR.out.step HS.out.mutA ht2)
    have HT2:=Lib.hid (HT.out.trans ht2)
    have HS2:=Lib.hid hs2
    have HD2:=Lib.hid hr2
    have HX6:Hid (Below w5.heap.size w5 (w5.alloc (.cells #[.bool x.val.list,.int .i64 x.val.n,.slice a2 x.val.l.length c2] 40))):=Lib.hid (bel_alloc (Below.refl _ _))
    clear hs2 ht2 hr2 hA2 HC kk0 kk1 kk2 kk3 q0 q1 q2 q3
    by_cases hxe:x.err=0
    · have dx:(x.err == 0)=true:=by simp [hxe]
      have dx':(x.err != 0)=false:=by simp [hxe]
      have HXE:=Lib.hid hxe
      have hXv:(w5.alloc (.cells #[.bool x.val.list,.int .i64 x.val.n,.slice a2 x.val.l.length c2] 40)).heap[w5.heap.size]?=some (.cells #[.bool x.val.list,.int .i64 x.val.n,.slice a2 x.val.l.length c2] 40 (0,0)):=at_new0 _ _
      obtain ⟨b0,b1,b2⟩:=cells3 hXv
      obtain ⟨l1,l2,l3,l4⟩:=kl_lit (g:=w5.heap.size+1) (w7:=(w5.alloc (.cells #[.bool x.val.list,.int .i64 x.val.n,.slice a2 x.val.l.length c2] 40)).alloc (.cells #[.bool x.val.list,.int .i64 x.val.n,.slice a2 x.val.l.length c2] 40)) (cs:=#[.bool x.val.list,.int .i64 x.val.n,.slice a2 x.val.l.length c2]) (x:=x.val) HS2.out HT2.out HR2.out (bel_alloc HX6.out) (at_new _ _ _) (by omega) rfl ⟨rfl,rfl,HD2.out,hn2⟩
      have HL1:=Lib.hid l1
      have HL2:=Lib.hid l2
      have HL3:=Lib.hid l3
      have HL4:=Lib.hid l4
      have HBS:Hid (w.heap.size+2≤((w5.alloc (.cells #[.bool x.val.list,.int .i64 x.val.n,.slice a2 x.val.l.length c2] 40)).alloc (.cells #[.bool x.val.list,.int .i64 x.val.n,.slice a2 x.val.l.length c2] 40)).heap.size):=Lib.hid (by have:=l3.lt;omega)
      clear l1 l2 l3 l4 hXv hxe
      go_wp2_with (refine wpl_rows TVl rfl (by decide) rfl (.tmp 140) (.tmp 142) rfl rfl rfl HL3.out.row HL4.out HL3.out.apart (by unfold maxLen;simp;omega) (by simp;omega) HBS.out ?_;intro a' c' w8 hown hg hn;have HN:Hid (KLoop C d cb A w rv ts env fuel active n (.cells #[.int .u8 n.kind,.int .i64 n.num,.string n.name,.slice (some ⟨b,off,none⟩) n.kids.length kc] 66 (0,0)) (.cells #[.bool false,.int .i64 0,.slice none 0 0] 40 (0,0)) (q+1) (.slice a' (vals.length+1) c') w8):=Lib.hid (kl_next HKT.out hlt hf' hcs hac hel (by rw [HXQ.out];exact HXE.out) (by rw [HXQ.out];exact HL1.out) HL2.out HL3.out HVL.out (by rw [HXQ.out];exact hown) hg hn);clear hown hg hn)
      go_wp2
      go_roundw
      case rel=>exact ⟨q+1,by go_num,HN.out⟩
      case measure=>simp [intOf];omega
    · have dx:(x.err == 0)=false:=by simp [hxe]
      have dx':(x.err != 0)=true:=by simp [hxe]
      have HZ6:=Lib.hid (blk_below HX6.out HR2.out.z)
      obtain ⟨z0,z1,z2⟩:=cells3 HZ6.out
      have zf:=unfrozen HZ6.out
      obtain ⟨g1,g2,g3⟩:=HKT.out.fails hlt (fun e=>hxe (by rw [← HXQ.out];exact e))
      simp only [HXQ.out] at g1 g2 g3
      have HOP2:=Lib.hid (HOP.out (by rw [g1];exact hxe))
      have HG1:=Lib.hid g1
      have HG2:=Lib.hid g2
      have HG3:=Lib.hid g3
      clear g1 g2 g3
      go_wp2
      (try simp only [Exit.inBlock,Exit.then])
      refine bodyPost_ret (results_cell_row2 (P:=Tryd.prog) rfl _ _ (w.heap.size+1) _ _ _ _ _ rfl (set3 HZ6.out _ _ _) rfl Tryd.underlying40 rfl (by kernel_rfl)) rfl ?_
      rw [HOP2.out,HG1.out,HG2.out,HG3.out]
      obtain ⟨r1,r2⟩:=res_sets (HS2.out.below HX6.out) (HT2.out.below HX6.out) (by omega) HR2.out.zA HR2.out.zM (.bool false) (.int .i64 0) (.slice none 0 0)
      exact ⟨A2,rv2,_,rfl,vl_no _,by rw [← calls_app];exact r1,r2⟩
  · obtain rfl:q=n.kids.length:=by omega
    have HEV:=Lib.hid hK.done
    have hl:vals.length=n.kids.length:=hK.1
    obtain ⟨av,cv,rfl⟩:=hr.row.form
    obtain ⟨hs2,ht2,hrow,hxA,hzA⟩:=kl_shut hs ht hr (by unfold maxLen;omega)
    obtain ⟨m1,m2,m3,m4,m5⟩:=HNE.out
    have HCO:=Lib.hid (operate_any n _ _ _ wr av cv vals (HV.out.stays (HST.out.stays ht)) HFB.out m1 m2 m3 m4 m5 hl hrow (fun x hx=>by have:=hvl x hx;unfold VLen at this;omega))
    have HS2:=Lib.hid hs2
    have HT2:=Lib.hid ht2
    have HZ2:=Lib.hid hr.z
    have HZM:=Lib.hid hr.zM
    have HXX2:Hid (evalN apI C.lib (d+1) n env fuel active=⟨(operateN apI n.kind n.num vals).1,(operateN apI n.kind n.num vals).2,f',cs⟩):=Lib.hid (by rw [HXX.out,HEV.out];rfl)
    obtain ⟨n0,n1,n2,n3⟩:=cells4 hr.x
    have hlt':¬ (n.kids.length:Int) < (n.kids.length:Int):=by omega
    have hzlt:=hr.lt
    generalize operateN apI n.kind n.num vals=y at HCO HXX2
    clear hs2 ht2 hs ht hr m1 m2 m3 m4 m5 hrow hK hvl HXX HOP hl
    go_wp2_with fail
    with_reducible refine HCO.out.mono ?_
    rintro e w5 ⟨v5,rfl,hv5,hb5⟩
    obtain ⟨a5,c5,rfl,hn5,hr5⟩:=hv5
    obtain ⟨k1,k2,k3⟩:=kl_new HS2.out HT2.out hb5
    have HR5:=Lib.hid (hr5.stays k3)
    have HK1:=Lib.hid k1
    have HK2:=Lib.hid k2
    have HZ5:=Lib.hid (blk_below hb5 HZ2.out)
    obtain ⟨z0,z1,z2⟩:=cells3 HZ5.out
    have zf:=unfrozen HZ5.out
    have hzN:¬ NewS (fun k=>A1 k∨(Value.slice av vals.length cv).ownBlock=some k) wr w5 (w.heap.size+1):=fun a=>by
     rcases a with a|a
     · exact hzA a
     · omega
    clear hr5 k1 k2 k3 n0 n1 n2 n3
    go_wp2
    (try simp only [Exit.inBlock,Exit.then])
    refine bodyPost_ret (results_cell_row2 (P:=Tryd.prog) rfl _ _ (w.heap.size+1) _ _ _ _ _ rfl (set3 HZ5.out _ _ _) rfl Tryd.underlying40 rfl (by kernel_rfl)) rfl ?_
    rw [HXX2.out]
    obtain ⟨r1,r2⟩:=res_sets HK1.out HK2.out (by omega) hzN HZM.out (.bool y.1.list) (.int .i64 y.1.n) (.slice a5 y.1.l.length c5)
    exact ⟨_,rv1,_,rfl,(show VlAt _ w5 _ y.1 from ⟨a5,c5,rfl,hn5,HR5.out⟩).stays ((keeps_set3 _ (w.heap.size+1) _ _ _).stays (fun k a _ e=>hzN (e ▸ a))),r1,r2⟩
end Go.Proofs.YtjhimhlebbamoaaDoor
