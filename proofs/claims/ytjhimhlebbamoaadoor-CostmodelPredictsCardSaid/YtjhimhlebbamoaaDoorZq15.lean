/- Contracts and plain lemmas (FexB): no statement of the seat is proved here. -/
import Derived.Test.YtjhimhlebbamoaaDoorZq13
import Derived.Test.YtjhimhlebbamoaaDoorZq12
/- Walks of package funeval:expr at a call. -/
set_option linter.unusedSimpArgs false
set_option linter.unusedVariables false
set_option linter.unusedSectionVars false
set_option maxRecDepth 100000
set_option maxHeartbeats 12800000
namespace Go.Proofs.YtjhimhlebbamoaaDoor
open Go.RowKit
theorem ev_call (d:Nat) (ih:XEv d) (hx:XCa d) (C:EC) (n:Nd) (v:Value) (cb mb:Nat) (A:Nat→Prop) (w:World) (rv:Value) (ts:List Tr) (env:VEnv) (N:Nat) (fuel active:Int) (hd:fuel.toNat < d+1) (h0:0 < fuel∧fuel≤1000000) (hac:0≤active∧active≤30) (htl:(ts.length:Int)+fuel≤2000000) (hN:N+sizeN n≤100000) (h85:n.kind=85) (hf:formedN n=true) (hc:CallsOk C.lib n) (hel:EnvLen env) (hv:NdAt A w v n) (hst:EvSt C cb A w rv ts fuel active) (hen:EnvAt A w mb env N):
 Calls Tryd.prog 65 #[.pointer (some ⟨C.ev,0,none⟩),v,.map (some mb),.pointer (some ⟨cb,0,none⟩)] w (EPost C cb A w rv ts active (evalN apI C.lib (d+1) n env fuel active)):=by
 have h80:n.kind≠80:=by omega
 have h81:n.kind≠81:=by omega
 have h83:n.kind≠83:=by omega
 have h84:n.kind≠84:=by omega
 obtain ⟨hok,hlen,ka,kc,rfl,hk⟩:=hv.open
 unfold maxLen at hlen
 have hS0:=hst.below (bel_alloc (x:=.cells #[.bool false,.int .i64 0,.slice none 0 0] 40) (bel_alloc (x:=.cells #[.int .u8 n.kind,.int .i64 n.num,.string n.name,.slice ka n.kids.length kc] 66) (Below.refl _ _)))
 have e1:=cell_blk hS0.ev 1 rfl
 have f1:=unfrozen hS0.ev
 obtain ⟨w1,w2,w3,w4⟩:=ew_start hst (.cells #[.int .u8 n.kind,.int .i64 n.num,.string n.name,.slice ka n.kids.length kc] 66) (.cells #[.bool false,.int .i64 0,.slice none 0 0] 40) (fuel - 1)
 have HKL:=Lib.hid (kl_start (d:=d) (env:=env) (n:=n) hst w1 w4 w2 w3)
 have HOP:=Lib.hid (fun he=>eval_err (d:=d) (lib:=C.lib) (env:=env) (active:=active) h0.1 h80 h81 h83 h84 he)
 have HXX:=Lib.hid (eval_call (d:=d) (lib:=C.lib) (env:=env) (active:=active) h0.1 h85)
 have HCK:Hid (0≤findF C.lib n.name∧n.kids.length=(fnAt C.lib (findF C.lib n.name)).params.length):=Lib.hid (by
  obtain ⟨k,num,name,kids⟩:=n
  have hc':=hc
  rw [CallsOk] at hc'
  exact hc'.1 h85)
 have HX:Hid (XCa d):=Lib.hid hx
 have HK:=Lib.hid hk
 have HST:=Lib.hid hst
 have HEN:=Lib.hid hen
 obtain ⟨n0,n1,n2,n3⟩:=cells4 w2
 have d0:¬ fuel≤0:=by omega
 have hwr:IntKind.i64.wrap (fuel - 1)=fuel - 1:=by rw [IntKind.wrap_i64];omega
 have d80:(n.kind == 80)=false:=by simpa using h80
 have d81:(n.kind == 81)=false:=by simpa using h81
 have d83:(n.kind == 83)=false:=by simpa using h83
 have d84:(n.kind == 84)=false:=by simpa using h84
 have d85':(n.kind != 85)=false:=by simp [h85]
 clear hst hen hS0 h80 h81 h83 h84 h85 w1 w2 w3 w4 hk hv hx
 go_enter Tryd.func65,Tryd.ntmps65
 go_wp2
 go_loopw [15,124] (fun rw i wr=>∃ q:Nat,i=.int .i64 q∧KLoop C d cb A w rv ts env fuel active n (.cells #[.int .u8 n.kind,.int .i64 n.num,.string n.name,.slice ka n.kids.length kc] 66 (0,0)) (.cells #[.bool false,.int .i64 0,.slice none 0 0] 40 (0,0)) q rw wr) (fun _ i _=>n.kids.length - (intOf i).toNat)
 case atStart=>exact ⟨0,rfl,HKL.out⟩
 case round=>
  clear HKL n0 n1 n2 n3 e1 f1
  obtain ⟨q,rfl,hq,A1,rv1,vals,f',cs,hK,hf',hcs,hs,ht,hr,hvl⟩:=hrel
  by_cases hlt:q < n.kids.length
  · obtain ⟨b,off,cap,kaq,kcq,he,_,_,_,q0,q1,q2,q3,hnd⟩:=(HK.out.stays (HST.out.stays ht)).at hlt
    simp only [Value.slice.injEq] at he
    obtain ⟨rfl,-,rfl⟩:=he
    have hA2:Below wr.heap.size wr (wr.alloc (.cells #[.int .u8 (at' n.kids q).kind,.int .i64 (at' n.kids q).num,.string (at' n.kids q).name,.slice kaq (at' n.kids q).kids.length kcq] 66)):=bel_alloc (Below.refl _ _)
    have hsz:=size_kid n q hlt
    have hcl:=calls_len ts cs C.tr
    have HC:=Lib.hid (ih C (at' n.kids q) _ cb mb A1 _ rv1 _ env N f' active (by omega) (by omega) hac (by omega) (by omega) (formed_kid hf hlt) (hc.kid hlt) hel (hnd.stays (Stays.of_below hA2)) (hs.below hA2) ((HEN.out.stays (HST.out.stays ht)).stays (Stays.of_below hA2)))
    obtain ⟨kk0,kk1,kk2,kk3⟩:=cells4 (at_new0 wr (.cells #[.int .u8 (at' n.kids q).kind,.int .i64 (at' n.kids q).num,.string (at' n.kids q).name,.slice kaq (at' n.kids q).kids.length kcq] 66))
    obtain ⟨aw,cw,rfl⟩:=hr.row.form
    have HR:=Lib.hid (hr.below hA2)
    have HS:=Lib.hid (hs.below hA2)
    have HT:=Lib.hid (ht.below hA2)
    have hkl:vals.length≤100000:=by have:=hK.1;have:=length_size n.kids;have:=sizeN_eq n;omega
    have HKT:=Lib.hid hK
    have HVL:=Lib.hid hvl
    generalize hx:evalN apI C.lib d (at' n.kids q) env f' active=x at HC
    have HXQ:=Lib.hid hx
    clear hnd hsz hcl hs ht hr hK hx hvl
    go_wp2_with fail
    refine HC.out.mono ?_
    rintro e w5 ⟨A2,rv2,v2,rfl,hv2,hs2,ht2⟩
    obtain ⟨a2,c2,rfl,hn2,hr2⟩:=hv2
    have HR2:=Lib.hid (HR.out.step HS.out.mutA ht2)
    have HT2:=Lib.hid (HT.out.trans ht2)
    have HS2:=Lib.hid hs2
    have HD2:=Lib.hid hr2
    have HX6:Hid (Below w5.heap.size w5 (w5.alloc (.cells #[.bool x.val.list,.int .i64 x.val.n,.slice a2 x.val.l.length c2] 40))):=Lib.hid (bel_alloc (Below.refl _ _))
    clear hs2 ht2 hr2 hA2 HC kk0 kk1 kk2 kk3 q0 q1 q2 q3
    by_cases hxe:x.err=0
    · have dx:(x.err == 0)=true:=by simp [hxe]
      have dx':(x.err != 0)=false:=by simp [hxe]
      have HXE:=Lib.hid hxe
      have hXv:(w5.alloc (.cells #[.bool x.val.list,.int .i64 x.val.n,.slice a2 x.val.l.length c2] 40)).heap[w5.heap.size]?=some (.cells #[.bool x.val.list,.int .i64 x.val.n,.slice a2 x.val.l.length c2] 40 (0,0)):=at_new0 _ _
      obtain ⟨b0,b1,b2⟩:=cells3 hXv
      obtain ⟨l1,l2,l3,l4⟩:=kl_lit (g:=w5.heap.size+1) (w7:=(w5.alloc (.cells #[.bool x.val.list,.int .i64 x.val.n,.slice a2 x.val.l.length c2] 40)).alloc (.cells #[.bool x.val.list,.int .i64 x.val.n,.slice a2 x.val.l.length c2] 40)) (cs:=#[.bool x.val.list,.int .i64 x.val.n,.slice a2 x.val.l.length c2]) (x:=x.val) HS2.out HT2.out HR2.out (bel_alloc HX6.out) (at_new _ _ _) (by omega) rfl ⟨rfl,rfl,HD2.out,hn2⟩
      have HL1:=Lib.hid l1
      have HL2:=Lib.hid l2
      have HL3:=Lib.hid l3
      have HL4:=Lib.hid l4
      have HBS:Hid (w.heap.size+2≤((w5.alloc (.cells #[.bool x.val.list,.int .i64 x.val.n,.slice a2 x.val.l.length c2] 40)).alloc (.cells #[.bool x.val.list,.int .i64 x.val.n,.slice a2 x.val.l.length c2] 40)).heap.size):=Lib.hid (by have:=l3.lt;omega)
      clear l1 l2 l3 l4 hXv hxe
      go_wp2_with (refine wpl_rows TVl rfl (by decide) rfl (.tmp 140) (.tmp 142) rfl rfl rfl HL3.out.row HL4.out HL3.out.apart (by unfold maxLen;simp;omega) (by simp;omega) HBS.out ?_;intro a' c' w8 hown hg hn;have HN:Hid (KLoop C d cb A w rv ts env fuel active n (.cells #[.int .u8 n.kind,.int .i64 n.num,.string n.name,.slice (some ⟨b,off,none⟩) n.kids.length kc] 66 (0,0)) (.cells #[.bool false,.int .i64 0,.slice none 0 0] 40 (0,0)) (q+1) (.slice a' (vals.length+1) c') w8):=Lib.hid (kl_next HKT.out hlt hf' hcs hac hel (by rw [HXQ.out];exact HXE.out) (by rw [HXQ.out];exact HL1.out) HL2.out HL3.out HVL.out (by rw [HXQ.out];exact hown) hg hn);clear hown hg hn)
      go_wp2
      go_roundw
      case rel=>exact ⟨q+1,by go_num,HN.out⟩
      case measure=>simp [intOf];omega
    · have dx:(x.err == 0)=false:=by simp [hxe]
      have dx':(x.err != 0)=true:=by simp [hxe]
      have HZ6:=Lib.hid (blk_below HX6.out HR2.out.z)
      obtain ⟨z0,z1,z2⟩:=cells3 HZ6.out
      have zf:=unfrozen HZ6.out
      obtain ⟨g1,g2,g3⟩:=HKT.out.fails hlt (fun e=>hxe (by rw [← HXQ.out];exact e))
      simp only [HXQ.out] at g1 g2 g3
      have HOP2:=Lib.hid (HOP.out (by rw [g1];exact hxe))
      have HG1:=Lib.hid g1
      have HG2:=Lib.hid g2
      have HG3:=Lib.hid g3
      clear g1 g2 g3
      go_wp2
      (try simp only [Exit.inBlock,Exit.then])
      refine bodyPost_ret (results_cell_row2 (P:=Tryd.prog) rfl _ _ (w.heap.size+1) _ _ _ _ _ rfl (set3 HZ6.out _ _ _) rfl Tryd.underlying40 rfl (by kernel_rfl)) rfl ?_
      rw [HOP2.out,HG1.out,HG2.out,HG3.out]
      obtain ⟨r1,r2⟩:=res_sets (HS2.out.below HX6.out) (HT2.out.below HX6.out) (by omega) HR2.out.zA HR2.out.zM (.bool false) (.int .i64 0) (.slice none 0 0)
      exact ⟨A2,rv2,_,rfl,vl_no _,by rw [← calls_app];exact r1,r2⟩
  · obtain rfl:q=n.kids.length:=by omega
    have HEV:=Lib.hid hK.done
    have hl:vals.length=n.kids.length:=hK.1
    have hfn:0≤f':=by
     have:=evalL_nonneg (g:=fun n f=>evalN apI C.lib d n env f active) (fun n f hf=>eval_nonneg apI C.lib d n env f active hf) n.kids (fuel - 1) (by omega)
     rw [HEV.out] at this;exact this
    obtain ⟨av,cv,rfl⟩:=hr.row.form
    obtain ⟨ra,rc,rfl⟩:=hs.row.form
    obtain ⟨hs2,ht2,hrow,hxA0,hzA0⟩:=kl_shut hs ht hr (by unfold maxLen;omega)
    have hxA:¬ (fun k=>A1 k∨(Value.slice av vals.length cv).ownBlock=some k) w.heap.size:=hxA0
    have hzA:¬ (fun k=>A1 k∨(Value.slice av vals.length cv).ownBlock=some k) (w.heap.size+1):=hzA0
    clear hxA0 hzA0
    generalize (fun k=>A1 k∨(Value.slice av vals.length cv).ownBlock=some k)=A2 at *
    have hfl:=findF_lt (lib:=C.lib) (name:=n.name) (by have:=HCK.out.1;omega)
    have hcl:=calls_len ts cs C.tr
    have HTS:Hid (ts ++ (if C.tr then cs else [])=ts ++ (if C.tr then cs else [])):=Lib.hid rfl
    generalize hTS:ts ++ (if C.tr then cs else [])=TS at hs2 hcl hs hr ht HTS ht2
    have htl2:TS.length≤2000000:=by omega
    have HFI:Hid (∀ w1,Below wr.heap.size wr w1→Calls Tryd.prog 15 #[.slice C.la C.lib.length C.lc,.string n.name] w1 (fun e w'=>e=.returned (.int .i64 (findF C.lib n.name))∧Below w1.heap.size w1 w')):=Lib.hid (fun w1 h1=>find_any _ C.lib n.name _ w1 (hs2.lib.stays (Stays.of_below h1)))
    have HCA:Hid (∀ w1,Below wr.heap.size wr w1→Calls Tryd.prog 51 #[.pointer (some ⟨C.ev,0,none⟩),.int .i64 (findF C.lib n.name),.slice av vals.length cv] w1 (CPost C cb A2 w1 (.slice ra TS.length rc) TS active (callN apI C.lib d (findF C.lib n.name) vals f' active))):=Lib.hid (fun w1 h1=>HX.out C (findF C.lib n.name) _ vals cb A2 w1 _ _ f' active (by omega) (by omega) hac hfl.1 hfl.2 (hl.trans HCK.out.2) hvl (hrow.stays (Stays.of_below h1)) (hs2.below h1))
    have HXX2:Hid (evalN apI C.lib (d+1) n env fuel active=(if (callN apI C.lib d (findF C.lib n.name) vals f' active).err≠0 then ⟨noVl,(callN apI C.lib d (findF C.lib n.name) vals f' active).err,(callN apI C.lib d (findF C.lib n.name) vals f' active).fuel,cs⟩ else ⟨(callN apI C.lib d (findF C.lib n.name) vals f' active).res,0,(callN apI C.lib d (findF C.lib n.name) vals f' active).fuel,cs ++ [(callN apI C.lib d (findF C.lib n.name) vals f' active).tree]⟩)):=Lib.hid (by rw [HXX.out,HEV.out];rfl)
    have HS2:=Lib.hid hs2
    have HT2:=Lib.hid ht2
    have HRX:=Lib.hid hr.x
    have HRZ:=Lib.hid hr.z
    have HZM:=Lib.hid (And.intro hzA hr.zM)
    obtain ⟨n0,n1,n2,n3⟩:=cells4 hr.x
    have v0:wr.cell? ⟨C.ev,0,none⟩=some (.slice C.la C.lib.length C.lc):=cell_blk hs2.ev 0 rfl
    have hlt':¬ (n.kids.length:Int) < (n.kids.length:Int):=by omega
    have HZL:=Lib.hid hr.lt
    generalize callN apI C.lib d (findF C.lib n.name) vals f' active=X at HCA HXX2
    have HTE:=Lib.hid hTS
    clear hs2 ht2 hs ht hr hrow hK hvl HXX HOP hl hfl hcl HX hTS HTS
    have HOLD:Hid (∀ (w1 w5:World) (A3:Nat→Prop),EStep C cb A2 w1 (.slice ra TS.length rc) A3 w5 (.slice ra TS.length rc)→∀ (g:Nat) (o:Obj),wr.heap.size≤g→w1.heap[g]?=some o→w5.heap[g]?=some o∧¬ A3 g∧¬ MuE C cb (.slice ra TS.length rc) g):=Lib.hid (fun w1 w5 A3 h1 g o h2 h3=>h1.own h3 (fun a=>by have:=HS2.out.alt g a;omega) (fun m=>by have:=HS2.out.mlt m;omega))
    have n2':(wr.alloc (.cells #[.int .i64 0,.slice none 0 0,.bool false,.int .i64 0,.slice none 0 0,.slice none 0 0] 43)).cell? ⟨w.heap.size,2,none⟩=some (.string n.name):=cell_blk (blk_below (bel_alloc (Below.refl _ _)) HRX.out) 2 rfl
    have v0':(wr.alloc (.cells #[.int .i64 0,.slice none 0 0,.bool false,.int .i64 0,.slice none 0 0,.slice none 0 0] 43)).cell? ⟨C.ev,0,none⟩=some (.slice C.la C.lib.length C.lc):=cell_blk (blk_below (bel_alloc (Below.refl _ _)) HS2.out.ev) 0 rfl
    go_upto_region 34 with fail
    go_cut [20,21] from 153 to 165 (fun s20 s21 wx=>CutC C cb A w rv (.slice ra TS.length rc) TS active X (.cells #[.bool false,.int .i64 0,.slice none 0 0] 40 (0,0)) s20 s21 wx)
    case first=>
     go_region_law (first
      | ((try go_simp);(try go_at_call 15);(with_reducible refine (HFI.out _ (by (repeat (with_reducible first|exact Below.refl _ _|refine bel_drew ?_|refine bel_alloc ?_|(apply bel_step;focus assumption))))).mono ?_);rintro e w3 ⟨rfl,hb3⟩;have hb1:Below wr.heap.size wr w3:=(by (repeat (with_reducible first|exact Below.refl _ _|refine bel_drew ?_|refine bel_alloc ?_|(apply bel_step;focus assumption))));have HB1:=Lib.hid hb1)
      | ((try go_simp);(try go_at_call 51);(with_reducible refine (HCA.out _ (by (repeat (with_reducible first|exact Below.refl _ _|refine bel_drew ?_|refine bel_alloc ?_|(apply bel_step;focus assumption))))).mono ?_);rintro e w5 ⟨A3,v3,rfl,ht3,hs3,hk3⟩;obtain ⟨f0,a1,n1,k1,a3,k3,a5,n5,k5,rfl,hv3,htr3⟩:=ht3;have HS3:=Lib.hid hs3;have HK3:=Lib.hid hk3;have HV3:=Lib.hid hv3;have HTR3:=Lib.hid htr3;(try (have hbx:=Lib.hid (HOLD.out _ _ _ hk3 w3.heap.size _ HB1.out.size (at_new0 w3 _))));(try (have hbx:=Lib.hid (HOLD.out _ _ _ hk3 wr.heap.size _ (Nat.le_refl _) (blk_below hb3 (at_new0 wr.drew _)))));(try (obtain ⟨y0,y1,y2,y3,y4,y5⟩:=cells6 hbx.out.1;have yf:=unfrozen hbx.out.1));clear hs3 hk3 hv3 htr3))
     all_goals
      go_wp2_with fail
      go_meet
      first
       | (with_reducible refine cut_a HS3.out (EStep.trans ?_ HK3.out) HV3.out HTR3.out ?_)
       | (with_reducible refine cut_b HS3.out (EStep.trans ?_ HK3.out) HV3.out HTR3.out ?_ hbx.out ?_)
      all_goals first
       | exact HT2.out.below (by (repeat (with_reducible first|exact Below.refl _ _|refine bel_drew ?_|refine bel_alloc ?_|(apply bel_step;focus assumption))))
       | exact HK3.out.own (blk_below (by (repeat (with_reducible first|exact Below.refl _ _|refine bel_drew ?_|refine bel_alloc ?_|(apply bel_step;focus assumption)))) HRZ.out) HZM.out.1 HZM.out.2
       | (have:=HZL.out;have:=HB1.out.size;omega)
    case rest=>
     clear n0 n1 n2 n3 v0 n2' v0'
     obtain ⟨g,A3,f0,a1,n1,k1,a3,k3,a5,n5,k5,rfl,rfl,hg,hlt2,hgM,hgA,hs,ht,hv,htr,hz,hzA3,hzM3⟩:=hcut
     have HS:=Lib.hid hs
     have HT:=Lib.hid ht
     have HV3:=Lib.hid hv
     have HTR:=Lib.hid htr
     have HZ:=Lib.hid (And.intro hz (And.intro hzA3 hzM3))
     have HG:=Lib.hid (And.intro hg (And.intro hgA hgM))
     obtain ⟨g0,g1,g2,g3,g4,g5⟩:=cells6 hg
     obtain ⟨z0,z1,z2⟩:=cells3 hz
     have zf:=unfrozen hz
     have hzg:w.heap.size+1≠g:=by omega
     clear hs ht hv htr hz hg hgA hgM hzA3 hzM3 hlt2
     by_cases hxe:X.err=0
     · have dx:(X.err == 0)=true:=by simp [hxe]
       have dx':(X.err != 0)=false:=by simp [hxe]
       have HXE:=Lib.hid hxe
       clear hxe
       have t3:wc.cell? ⟨C.ev,3,none⟩=some (.bool C.tr):=cell_blk HS.out.ev 3 rfl
       by_cases htr:C.tr=true
       · rw [htr] at t3
         have HTE2:=Lib.hid htr
         clear htr
         have HPL:Hid (∀ w7,Below wc.heap.size wc w7→w7.heap[wc.heap.size]?=some (.cells #[.int .i64 0,.slice none 0 0,.bool false,.int .i64 0,.slice none 0 0,.slice none 0 0] 43 (0,0))→EvSt C cb (fun k=>A3 k∨k=wc.heap.size) w7 (.slice ra TS.length rc) TS X.fuel active∧RowsAt TrE (fun k=>A3 k∨k=wc.heap.size) w7 (.slice (some ⟨wc.heap.size,0,none⟩) 1 1) [default]):=Lib.hid (fun w7 h1 h2=>push_lit HS.out h1 h2 (Nat.le_refl _))
         have k0:wc.cell? ⟨cb,0,none⟩=some (.slice ra TS.length rc):=cell_blk HS.out.cbk 0 rfl
         have i1:(TS.length:Int) < (TS.length:Int)+1:=by omega
         have HGB:=Lib.hid HG.out.1
         obtain ⟨r0,r1,r2,r3,r4,r5⟩:=cells6 (blk_below (bel_alloc (x:=(.cells #[.int .i64 0,.slice none 0 0,.bool false,.int .i64 0,.slice none 0 0,.slice none 0 0] 43)) (Below.refl _ _)) HGB.out)
         have kk1:=cell_blk (blk_below (bel_alloc (x:=(.cells #[.int .i64 0,.slice none 0 0,.bool false,.int .i64 0,.slice none 0 0,.slice none 0 0] 43)) (Below.refl _ _)) HS.out.cbk) 0 rfl
         go_upto_region 38 with fail
         go_cut [180] from 174 to 182 (fun s180 wx=>CutD C cb A w rv (TS ++ [X.tree]) X.fuel active (.agg #[.bool X.res.list,.int .i64 X.res.n,.slice a3 X.res.l.length k3]) X.res g (.cells #[.int .i64 f0,.slice a1 n1 k1,.bool X.res.list,.int .i64 X.res.n,.slice a3 X.res.l.length k3,.slice a5 n5 k5] 43 (0,0)) (.cells #[.bool false,.int .i64 0,.slice none 0 0] 40 (0,0)) wx)
         case first=>
          go_region_law (first
           | (refine step_rows TTree rfl (by decide) (by rfl) (.tmp 176) (.tmp 179) (by rfl) (by rfl) (by rfl) (HPL.out _ (by (repeat (with_reducible first|exact Below.refl _ _|refine bel_drew ?_|refine bel_alloc ?_|(apply bel_step;focus assumption)))) (by (repeat (with_reducible first|(refine blk_new ?_;(simp;done))|(refine blk_new ?_;rfl)|refine blk_drew ?_|refine blk_alloc ?_|(apply blk_below;focus assumption))))).1.row (HPL.out _ (by (repeat (with_reducible first|exact Below.refl _ _|refine bel_drew ?_|refine bel_alloc ?_|(apply bel_step;focus assumption)))) (by (repeat (with_reducible first|(refine blk_new ?_;(simp;done))|(refine blk_new ?_;rfl)|refine blk_drew ?_|refine blk_alloc ?_|(apply blk_below;focus assumption))))).2 (HPL.out _ (by (repeat (with_reducible first|exact Below.refl _ _|refine bel_drew ?_|refine bel_alloc ?_|(apply bel_step;focus assumption)))) (by (repeat (with_reducible first|(refine blk_new ?_;(simp;done))|(refine blk_new ?_;rfl)|refine blk_drew ?_|refine blk_alloc ?_|(apply blk_below;focus assumption))))).1.apart (by unfold maxLen;simp;omega) (by simp;omega) (Nat.zero_le _) ?_;intro a8 c8 w8 hown8 hg8 hn8;obtain ⟨g8,rfl,hb8,hc8,hf8,h8,n81,n82,n83⟩:=push_facts (HPL.out _ (by (repeat (with_reducible first|exact Below.refl _ _|refine bel_drew ?_|refine bel_alloc ?_|(apply bel_step;focus assumption)))) (by (repeat (with_reducible first|(refine blk_new ?_;(simp;done))|(refine blk_new ?_;rfl)|refine blk_drew ?_|refine blk_alloc ?_|(apply blk_below;focus assumption))))).1 hown8 hg8 hn8 (blk_below (by (repeat (with_reducible first|exact Below.refl _ _|refine bel_drew ?_|refine bel_alloc ?_|(apply bel_step;focus assumption)))) HGB.out) HG.out.2.2;obtain ⟨x0,y0⟩:=h8 0 (by omega);obtain ⟨x1,y1⟩:=h8 1 (by omega);obtain ⟨x2,y2⟩:=h8 2 (by omega);obtain ⟨x3,y3⟩:=h8 3 (by omega);obtain ⟨x4,y4⟩:=h8 4 (by omega);obtain ⟨x5,y5⟩:=h8 5 (by omega);simp only [Nat.add_zero] at y0;obtain ⟨p0,p1,p2,p3,p4,p5⟩:=cells6 hb8;have q0:=cell_blk hc8 0 rfl;have qf:=unfrozen hc8;have HCD:=Lib.hid (push_all hown8 hg8 hn8 (by (repeat (with_reducible first|exact Below.refl _ _|refine bel_drew ?_|refine bel_alloc ?_|(apply bel_step;focus assumption)))) (HPL.out _ (by (repeat (with_reducible first|exact Below.refl _ _|refine bel_drew ?_|refine bel_alloc ?_|(apply bel_step;focus assumption)))) (by (repeat (with_reducible first|(refine blk_new ?_;(simp;done))|(refine blk_new ?_;rfl)|refine blk_drew ?_|refine blk_alloc ?_|(apply blk_below;focus assumption))))).1 HS.out HT.out HV3.out HZ.out HG.out (HTR.out HXE.out HTE2.out));clear hown8 hg8 hn8 h8 hb8 hc8)
           )
          all_goals
           go_wp2_with fail
           go_meet
           first|(with_reducible exact HCD.out.1)|(with_reducible exact HCD.out.2)
         case rest=>
          clear g0 g1 g2 g3 g4 g5 z0 z1 z2 zf t3 r0 r1 r2 r3 r4 r5 kk1 k0
          obtain ⟨A4,rv4,hs4,ht4,hv4,hg4,hz4,hzA4,hzM4⟩:=hcut
          have HS4:=Lib.hid hs4
          have HT4:=Lib.hid ht4
          have HV4:=Lib.hid hv4
          have HZ4:=Lib.hid hz4
          obtain ⟨g0,g1,g2,g3,g4,g5⟩:=cells6 hg4
          obtain ⟨z0,z1,z2⟩:=cells3 hz4
          have zf:=unfrozen hz4
          clear hs4 ht4 hv4 hg4 hz4
          go_wp2
          (try simp only [Exit.inBlock,Exit.then])
          refine bodyPost_ret (results_cell_row2 (P:=Tryd.prog) rfl _ _ (w.heap.size+1) _ _ _ _ _ rfl (set3 HZ4.out _ _ _) rfl Tryd.underlying40 rfl (by kernel_rfl)) rfl ?_
          rw [HXX2.out,if_neg (fun h=>h HXE.out)]
          have hsz:=HT4.out.keeps.size
          obtain ⟨r1,r2⟩:=res_sets HS4.out HT4.out (by omega) hzA4 hzM4 (.bool X.res.list) (.int .i64 X.res.n) (.slice a3 X.res.l.length k3)
          refine ⟨A4,rv4,_,rfl,HV4.out.stays ((keeps_set3 _ (w.heap.size+1) _ _ _).stays (fun k a _ e=>hzA4 (e ▸ a))),?_,r2⟩
          have e:ts ++ (if C.tr=true then cs ++ [X.tree] else [])=TS ++ [X.tree]:=by rw [← HTE.out,HTE2.out];simp
          show EvSt C cb A4 _ _ (ts ++ (if C.tr=true then cs ++ [X.tree] else [])) _ _
          rw [e]
          exact r1
       · have htr':C.tr=false:=by simpa using htr
         rw [htr'] at t3
         have HTE2:=Lib.hid htr'
         clear htr htr'
         go_wp2
         (try simp only [Exit.inBlock,Exit.then])
         refine bodyPost_ret (results_cell_row2 (P:=Tryd.prog) rfl _ _ (w.heap.size+1) _ _ _ _ _ rfl (set3 HZ.out.1 _ _ _) rfl Tryd.underlying40 rfl (by kernel_rfl)) rfl ?_
         rw [HXX2.out,if_neg (fun h=>h HXE.out)]
         have hsz:=HT.out.keeps.size
         obtain ⟨r1,r2⟩:=res_sets HS.out HT.out (by omega) HZ.out.2.1 HZ.out.2.2 (.bool X.res.list) (.int .i64 X.res.n) (.slice a3 X.res.l.length k3)
         refine ⟨A3,_,_,rfl,HV3.out.stays ((keeps_set3 _ (w.heap.size+1) _ _ _).stays (fun k a _ e=>HZ.out.2.1 (e ▸ a))),?_,r2⟩
         have e:ts ++ (if C.tr=true then cs ++ [X.tree] else [])=TS:=by rw [← HTE.out,HTE2.out];simp
         show EvSt C cb A3 _ _ (ts ++ (if C.tr=true then cs ++ [X.tree] else [])) _ _
         rw [e]
         exact r1
     · have dx:(X.err == 0)=false:=by simp [hxe]
       have dx':(X.err != 0)=true:=by simp [hxe]
       go_wp2
       (try simp only [Exit.inBlock,Exit.then])
       refine bodyPost_ret (results_cell_row2 (P:=Tryd.prog) rfl _ _ (w.heap.size+1) _ _ _ _ _ rfl (set3 HZ.out.1 _ _ _) rfl Tryd.underlying40 rfl (by kernel_rfl)) rfl ?_
       rw [HXX2.out,if_pos hxe]
       obtain ⟨r1,r2⟩:=res_sets HS.out HT.out (by omega) HZ.out.2.1 HZ.out.2.2 (.bool false) (.int .i64 0) (.slice none 0 0)
       exact ⟨A3,_,_,rfl,vl_no _,by rw [HTE.out];exact r1,r2⟩
end Go.Proofs.YtjhimhlebbamoaaDoor
