/- Contracts and plain lemmas (R43G, R43M): no statement of the seat is proved here. -/
import Derived.Test.YtjhimhlebbamoaaDoorZs4
/- The reference of layer 43:a call is walked. -/
set_option linter.unusedSimpArgs false
set_option linter.unusedVariables false
set_option linter.unusedSectionVars false
set_option maxRecDepth 100000
set_option maxHeartbeats 12800000
namespace Go.Proofs.YtjhimhlebbamoaaDoor
open Go.RowKit
theorem call43 (lib:List Fn) (hv:(validE lib).2=0) (m:Nat) (HB:XB43 lib m):XC43 lib m:=by
 intro R la lc A w av us t left hm hin
 obtain ⟨hrb,hlb,hargs,hap,htr,hln,hus,hneed,hle⟩:=hin
 obtain ⟨hul,xa,xc,rfl⟩:=hargs.form
 obtain ⟨f,args,res,calls⟩:=t
 rw [TrR] at htr
 obtain ⟨⟨hf0,hfl,hal,vals',c,hex,hres⟩,htrs⟩:=htr
 rw [TrLen] at hln
 obtain ⟨hla,hlr,hlc⟩:=hln
 replace hus:us.map cleanV=args:=hus
 have hcost:costT apI lib (.mk f args res calls)=c+costTs apI lib calls:=by
  rw [costT,hex];rfl
 rw [hcost] at hm hneed
 obtain ⟨fi,rfl⟩:∃ fi:Nat,f=(fi:Int):=⟨f.toNat,by omega⟩
 have hfi:fi < lib.length:=by simpa using hfl
 have hok:=valid_ok hv hfi
 have hpn:=pars_names hok.pars
 have hp8:=pars_le hok.pars
 obtain ⟨hgf,-,-⟩:=norm_good hv hfi
 have hto:=to_norm hv hfi
 obtain ⟨g,hg⟩:∃ g,g=normF lib (at' lib fi):=⟨_,rfl⟩
 have hfa:fnAt lib (fi:Int)=at' lib fi:=rfl
 have hgp:g.params=(at' lib fi).params:=by rw [hg];rfl
 rw [hfa,← hg,← hgp] at hex
 rw [hfa,← hg] at hres
 rw [hfa,← hgp] at hal
 rw [← hg] at hgf hto
 rw [← hgp] at hpn hp8
 have hpu:puN lib (.mk (fi:Int) args res calls)=(g.temps.length:Int)+sumI (g.temps.map (tempN vals')):=by
  have h:=cexecBs_exec apI lib _ _ _ _ _ _ hex
  show pushedN (normF lib (fnAt lib (fi:Int))) _=_
  rw [hfa,← hg]
  unfold pushedN valsN
  rw [show execBs apI g.body (bindPars g.params (Tr.args (.mk (fi:Int) args res calls))) (Tr.calls (.mk (fi:Int) args res calls))=some (vals',[]) from h]
  rfl
 show Calls Tryd.prog 37 #[.pointer (some ⟨R,0,none⟩),.int .i64 (fi:Int),.slice xa us.length xc] w _
 have hRlt:R < w.heap.size:=by rw [Array.getElem?_eq_some_iff] at hrb;exact hrb.1
 obtain ⟨b,off,cap,-,-,-,-,-,-,he,-,-,-⟩:=afn_at hlb (j:=0) (by simp [normL];omega)
 simp only [Value.slice.injEq] at he
 obtain ⟨rfl,-,rfl⟩:=he
 have hule:us.length=g.params.length:=by rw [← hal,← hus,List.length_map]
 have hB0:Below w.heap.size w ((((w.alloc (.cells #[.bool false,.int .i64 0,.slice none 0 0] 96)).alloc (.cells #[.int .i64 0,.int .i64 0,.slice none 0 0] 49)).alloc (.cells #[.int .i64 fi,.int .i64 0,.slice none 0 0] 49)).alloc (.map #[] 0)):=bel_alloc (bel_alloc (bel_alloc (bel_alloc (Below.refl _ _))))
 have hW:((((w.alloc (.cells #[.bool false,.int .i64 0,.slice none 0 0] 96)).alloc (.cells #[.int .i64 0,.int .i64 0,.slice none 0 0] 49)).alloc (.cells #[.int .i64 fi,.int .i64 0,.slice none 0 0] 49)).alloc (.map #[] 0)).heap.size=w.heap.size+4:=by simp
 have h6:((((w.alloc (.cells #[.bool false,.int .i64 0,.slice none 0 0] 96)).alloc (.cells #[.int .i64 0,.int .i64 0,.slice none 0 0] 49)).alloc (.cells #[.int .i64 fi,.int .i64 0,.slice none 0 0] 49)).alloc (.map #[] 0)).heap[w.heap.size]?=some (.cells #[.bool false,.int .i64 0,.slice none 0 0] 96 (0,0)):=blk_alloc (blk_alloc (blk_alloc (blk_new rfl)))
 have h7:((((w.alloc (.cells #[.bool false,.int .i64 0,.slice none 0 0] 96)).alloc (.cells #[.int .i64 0,.int .i64 0,.slice none 0 0] 49)).alloc (.cells #[.int .i64 fi,.int .i64 0,.slice none 0 0] 49)).alloc (.map #[] 0)).heap[w.heap.size+1]?=some (.cells #[.int .i64 0,.int .i64 0,.slice none 0 0] 49 (0,0)):=blk_alloc (blk_alloc (blk_new (by simp)))
 have hmd:=SMapLe.made Tryd.prog 9 (((w.alloc (.cells #[.bool false,.int .i64 0,.slice none 0 0] 96)).alloc (.cells #[.int .i64 0,.int .i64 0,.slice none 0 0] 49)).alloc (.cells #[.int .i64 fi,.int .i64 0,.slice none 0 0] 49))
 have hst0:RSt ⟨lib,R,w.heap.size+1+1+1,w.heap.size+1+1,some ⟨b,off,none⟩,lc,fi,g.temps⟩ A ((((w.alloc (.cells #[.bool false,.int .i64 0,.slice none 0 0] 96)).alloc (.cells #[.int .i64 0,.int .i64 0,.slice none 0 0] 49)).alloc (.cells #[.int .i64 fi,.int .i64 0,.slice none 0 0] 49)).alloc (.map #[] 0)) (.slice none 0 0) left noEnv [] 0:={
  rb:=blk_below hB0 hrb
  nb:=blk_alloc (blk_new (by simp))
  row:=RowsOwn.nil _ _ _ _ _
  lib:=hlb.stays (Stays.of_below hB0)
  mp:=⟨fun _=>none,by simpa using hmd,fun s=>⟨nofun,fun _=>rfl⟩,fun j _ v e=>nomatch e⟩
  alt:=fun k a=>by have:=(hap k a).1;omega
  mutA:=fun k mm a=>by
   have:=hap k a
   rcases mm with e|e|e|e
   · exact this.2 e
   · have e:k=w.heap.size+1+1+1:=e
     omega
   · have e:k=w.heap.size+1+1:=e
     omega
   · simp [Value.ownBlock] at e
  dRM:=by show R≠w.heap.size+1+1+1;omega
  dRN:=by show R≠w.heap.size+1+1;omega
  dMN:=by show w.heap.size+1+1+1≠w.heap.size+1+1;omega
  rR:=by simp [Value.ownBlock]
  rM:=by simp [Value.ownBlock]
  rN:=by simp [Value.ownBlock] }
 have HARG:=Lib.hid (hargs.stays (Stays.of_below hB0))
 have HW:=Lib.hid (And.intro hB0 (And.intro hW (And.intro h6 h7)))
 have HL0:Hid (ALc ⟨lib,R,w.heap.size+1+1+1,w.heap.size+1+1,some ⟨b,off,none⟩,lc,fi,g.temps⟩ A ((((w.alloc (.cells #[.bool false,.int .i64 0,.slice none 0 0] 96)).alloc (.cells #[.int .i64 0,.int .i64 0,.slice none 0 0] 49)).alloc (.cells #[.int .i64 fi,.int .i64 0,.slice none 0 0] 49)).alloc (.map #[] 0)) g.params args left 0 ((((w.alloc (.cells #[.bool false,.int .i64 0,.slice none 0 0] 96)).alloc (.cells #[.int .i64 0,.int .i64 0,.slice none 0 0] 49)).alloc (.cells #[.int .i64 fi,.int .i64 0,.slice none 0 0] 49)).alloc (.map #[] 0))):=Lib.hid ⟨hst0,RStep.refl _ _ _ _⟩
 have HG:=Lib.hid hg
 have HUS:Hid (∀ k,k < us.length→cleanV (at' us k)=cleanV (at' args k)):=Lib.hid (fun k hk=>by
  rw [← hus,at_map _ hk,clean_cleanR])
 have HFI:=Lib.hid hfi
 have HPN:=Lib.hid hpn
 have HP8:=Lib.hid hp8
 have HUL:=Lib.hid hule
 have HAL:=Lib.hid hal
 have HEX:=Lib.hid hex
 have HRES:=Lib.hid hres
 have HGF:=Lib.hid hgf
 have HTO:=Lib.hid hto
 have HTRS:=Lib.hid htrs
 have HLC:=Lib.hid hlc
 have HLA:=Lib.hid hla
 have HCO:=Lib.hid (And.intro hm (And.intro hneed (And.intro hle hcost)))
 have HPU:=Lib.hid hpu
 have HAP:=Lib.hid hap
 have HRL:=Lib.hid hRlt
 have hmm:=@run_makeMap Tryd.prog
 have f0:(0:Int)≤(fi:Int):=Int.natCast_nonneg fi
 have f1:(fi:Int) < (lib.length:Int):=Int.ofNat_lt.2 hfi
 have f2:fi < lib.length:=hfi
 have hu8:us.length≤8:=by omega
 clear hrb hlb hargs hap htrs hla hlr hlc hus hcost hm hneed hle hfl hf0 hok hpn hp8 hgf hto hfa hgp hex hres hal hpu hB0 hW h6 h7 hmd hst0 hule hfi hg hRlt
 go_enter Tryd.func37,Tryd.ntmps37
 go_wp2
 clear hmm
 generalize ((((w.alloc (.cells #[.bool false,.int .i64 0,.slice none 0 0] 96)).alloc (.cells #[.int .i64 0,.int .i64 0,.slice none 0 0] 49)).alloc (.cells #[.int .i64 fi,.int .i64 0,.slice none 0 0] 49)).alloc (.map #[] 0))=W at *
 generalize hM:w.heap.size+1+1+1=M at *
 generalize hN:w.heap.size+1+1=N at *
 generalize hG7:w.heap.size+1=G7 at *
 replace hM:M=w.heap.size+3:=by omega
 replace hN:N=w.heap.size+2:=by omega
 replace hG7:G7=w.heap.size+1:=by omega
 have HMN:=Lib.hid (And.intro hM (And.intro hN hG7))
 clear hM hN hG7
 go_loopw [11] (fun i wr=>∃ k:Nat,i=.int .i64 k∧k≤us.length∧ALc ⟨lib,R,M,N,some ⟨b,off,none⟩,lc,fi,g.temps⟩ A W g.params args left k wr) (fun i _=>us.length - (intOf i).toNat)
 case atStart=>exact ⟨0,rfl,Nat.zero_le _,HL0.out⟩
 case round=>
  clear HL0
  obtain ⟨k,rfl,hk,hall⟩:=hrel
  have hR0:wr.cell? ⟨R,0,none⟩=some (.slice (some ⟨b,off,none⟩) lib.length lc):=cell_blk hall.st.rb 0 rfl
  obtain ⟨pa,pc,ta,tc,ba,bc,p1,p3,p4,p5,hpp,htt,hbb,hs5,hlc⟩:=af43 hall.st.lib f2 HG.out
  by_cases hlt:k < us.length
  · have hkp:k < g.params.length:=by have:=HUL.out;omega
    obtain ⟨pb,po,pcap,he,_,_,_,n0,n1,hns⟩:=hpp.at hkp
    simp only [Value.slice.injEq] at he
    obtain ⟨rfl,-,rfl⟩:=he
    have hAst:Stays A A W wr:=hall.step.stays (fun j a mm=>by
     have h1:=HAP.out j a
     have h2:=HMN.out
     rcases mm with e|e|e|e
     · exact h1.2 e
     · have e:j=M:=e
       omega
     · have e:j=N:=e
       omega
     · simp [Value.ownBlock] at e)
    obtain ⟨ab,ao,acap,va,vc,he,_,_,_,a0,a1,a2,hvn,hvr⟩:=vls_at (HARG.out.stays hAst) hlt
    simp only [Value.slice.injEq] at he
    obtain ⟨rfl,-,rfl⟩:=he
    obtain ⟨w6,hrun,hal6⟩:=hall.next HAL.out hkp HPN.out HP8.out (v:=.agg #[.bool (at' us k).list,.int .i64 (at' us k).n,.slice va (at' us k).l.length vc]) ⟨va,vc,rfl,hvn,hvr⟩ (HUS.out k hlt) hns
    have HAL6:=Lib.hid hal6
    have k0:(0:Int)≤(k:Int):=Int.natCast_nonneg k
    have k1:(k:Int) < (g.params.length:Int):=Int.ofNat_lt.2 hkp
    have k2:(k:Int) < (us.length:Int):=Int.ofNat_lt.2 hlt
    have HSU:=Lib.hid hlt
    clear hal6 hvn hvr hAst hpp htt hbb hall hns p3 p4 p5 hs5
    go_wp2
    go_region
    all_goals
     go_wp2
     exact ⟨⟨k+1,by go_num,HSU.out,HAL6.out⟩,by have:=HSU.out;simp [intOf];omega⟩
  · obtain rfl:k=us.length:=by omega
    have hlt':¬ (us.length:Int) < (us.length:Int):=by omega
    have hst:=hall.st
    have hstep:=hall.step
    have e1:g.params.take us.length=g.params:=by rw [HUL.out,List.take_length]
    have e2:args.take us.length=args:=by rw [HUL.out,← HAL.out,List.take_length]
    rw [e1,e2] at hst
    have hc0:=(cexecBs_used apI lib _ _ _ _ _ _ HEX.out).1
    have hneed:need43 lib c calls []=c+costTs apI lib calls:=by unfold need43;rw [costTs];omega
    have HBN:=Lib.hid (HB ⟨lib,R,M,N,some ⟨b,off,none⟩,lc,fi,g.temps⟩ A wr (.slice none 0 0) left (bindPars g.params args) [] us.length g.body (.slice ba g.body.length bc) calls [] vals' c rfl HEX.out (by rw [hneed];exact HCO.out.1) (by rw [hneed];exact HCO.out.2.1) HCO.out.2.2.1 HGF.out.body HTO.out HGF.out.temps (by have:=HGF.out.tlen;show g.temps.length≤10000;omega) HTRS.out HLC.out ⟨by have h1:=HUL.out;have h2:=HP8.out;have h3:=HCO.out.2.2.1;omega,by have h3:=HCO.out.2.2.1;simp;omega,by have:=costTs_nonneg apI lib calls;have:=HCO.out.2.1;omega,fun s=>by have:=bindPars_len g.params args HLA.out s;unfold VLen at this;omega⟩ hst hbb)
    have HSTEP:=Lib.hid hstep
    clear hst hstep hall hpp htt hbb p1 p3 p5 hs5 hneed hc0 e1 e2
    go_wp2_with fail
    (with_reducible refine HBN.out.mono ?_)
    rintro e w5 ⟨rfl,A5,rv5,left5,ns5,K5,hs5,ht5,ha5,hl5,hh5,hsm5⟩
    have ha5:ns5=calls:=by simpa using ha5
    subst ha5
    obtain ⟨ra,rc,rfl⟩:=hs5.row.form
    have hmn:=HMN.out
    have hrl:=HRL.out
    have htt5:=HSTEP.out.trans ht5
    have hWW:=HW.out
    have hmu:∀ j,j=w.heap.size∨j=G7→¬ MuR ⟨lib,R,M,N,some ⟨b,off,none⟩,lc,fi,g.temps⟩ (.slice none 0 0) j:=fun j hj mm=>by
     rcases mm with e|e|e|e
     · have e:j=R:=e
       omega
     · have e:j=M:=e
       omega
     · have e:j=N:=e
       omega
     · simp [Value.ownBlock] at e
    have hg6:=(htt5.keeps.block w.heap.size (by omega) (hmu _ (.inl rfl))).trans hWW.2.2.1
    have hg7:=(htt5.keeps.block G7 (by omega) (hmu _ (.inr rfl))).trans hWW.2.2.2
    have HBX:=Lib.hid (And.intro hg6 hg7)
    have hvl:∀ s,(vals' s).l.length≤300000:=fun s=>by have:=hsm5.len s;have:=hsm5.k;have:=hsm5.l0;omega
    have HS5:=Lib.hid hs5
    have HT5:=Lib.hid htt5
    have HLO:=Lib.hid (And.intro hl5 hh5)
    have HVL:=Lib.hid hvl
    have HNLT:Hid (N < w5.heap.size∧R≠N∧M≠N∧R < w5.heap.size∧w.heap.size≠N∧G7≠N∧w.heap.size < w5.heap.size∧G7 < w5.heap.size∧w.heap.size≠G7):=Lib.hid ⟨hs5.nlt,hs5.dRN,hs5.dMN,hs5.rlt,by omega,by omega,by have:=htt5.keeps.size;omega,by have:=htt5.keeps.size;omega,by omega⟩
    have HCL:Hid (ns5.length≤maxLen):=Lib.hid (by have:=hsm5.n;have:=hsm5.l0;unfold maxLen;omega)
    clear hs5 ht5 hl5 hh5 hsm5 htt5 hWW hmu hg6 hg7 hvl hmn hrl HBN HSTEP hlc hR0
    go_wp2
    go_loopw [12] (fun i wq=>∃ k:Nat,i=.int .i64 k∧k≤g.temps.length∧TLp ⟨lib,R,M,N,some ⟨b,off,none⟩,lc,fi,g.temps⟩ w5 (.slice ra ns5.length rc) g.temps vals' k wq) (fun i _=>g.temps.length - (intOf i).toNat)
    case atStart=>exact ⟨0,rfl,Nat.zero_le _,⟨Keeps.refl _ _,by simpa [sumI] using HS5.out.nb⟩⟩
    case round=>
     obtain ⟨k,rfl,hk,htl⟩:=hrel
     obtain ⟨wq,hwq⟩:∃ wq,wq=wr:=⟨_,rfl⟩
     subst hwq
     have hstq:Stays A5 A5 w5 wq:=htl.kp.stays (fun j a _ e=>HS5.out.mutA j (.inr (.inr (.inl e))) a)
     obtain ⟨pa,pc,ta,tc,ba,bc,p1,p3,p4,p5,hpp,htt,hbb,hsr,hlc⟩:=af43 (HS5.out.lib.stays hstq) f2 HG.out
     have hR0:wq.cell? ⟨R,0,none⟩=some (.slice (some ⟨b,off,none⟩) lib.length lc):=cell_blk ((htl.kp.block R HNLT.out.2.2.2.1 HNLT.out.2.1).trans HS5.out.rb) 0 rfl
     have hN1:wq.cell? ⟨N,1,none⟩=some (.int .i64 ((k:Int)+sumI ((g.temps.take k).map (tempN vals')))):=cell_blk htl.nb 1 rfl
     have hqz:N < wq.heap.size:=Nat.lt_of_lt_of_le HNLT.out.1 htl.kp.size
     by_cases hlt:k < g.temps.length
     · obtain ⟨tb,tq,tcap,he,htb,_,_,n0,n1,hns⟩:=htt.at hlt
       simp only [Value.slice.injEq] at he
       obtain ⟨rfl,-,rfl⟩:=he
       have hbA:Below wq.heap.size wq (wq.alloc (.cells #[.string (at' g.temps k).name,.bool (at' g.temps k).list] 101)):=bel_alloc (Below.refl _ _)
       have hA1:=cell_bel hbA hN1
       have hAf:=unfrozen (blk_below hbA htl.nb) 1
       obtain ⟨hk7,hb7⟩:=htl.one HNLT.out.1 (.cells #[.string (at' g.temps k).name,.bool (at' g.temps k).list] 101) (.int .i64 ((k:Int)+sumI ((g.temps.take k).map (tempN vals'))+1))
       have hx7:=blk_set (o:=1) (x:=.int .i64 ((k:Int)+sumI ((g.temps.take k).map (tempN vals'))+1)) (at_new0 wq (.cells #[.string (at' g.temps k).name,.bool (at' g.temps k).list] 101)) (show wq.heap.size≠N by omega)
       have c0:=cell_blk hx7 0 rfl
       have c1:=cell_blk hx7 1 rfl
       have d1:=cell_blk hb7 1 rfl
       have df:=unfrozen hb7 1
       have htj:(tname k).size≤maxLen:=by rw [← HGF.out.temps k hlt];exact hns
       obtain ⟨v,u,hlook,hvu,hlen⟩:=TLp.look HS5.out hk7 hlt HGF.out.temps htj
       obtain ⟨ua,uc,rfl,hin,hro⟩:=hvu
       have hlook:(Instr.lookup 137 (.map (some M)) (.string (at' g.temps k).name) false).run Tryd.prog ((wq.alloc (.cells #[.string (at' g.temps k).name,.bool (at' g.temps k).list] 101)).setCell ⟨N,1,none⟩ (.int .i64 ((k:Int)+sumI ((g.temps.take k).map (tempN vals'))+1)))=.ok (.agg #[.bool u.list,.int .i64 u.n,.slice ua u.l.length uc]) ((wq.alloc (.cells #[.string (at' g.temps k).name,.bool (at' g.temps k).list] 101)).setCell ⟨N,1,none⟩ (.int .i64 ((k:Int)+sumI ((g.temps.take k).map (tempN vals'))+1))):=hlook
       have hts:=temps_le g.temps vals' k hk (by have:=HGF.out.tlen;omega) HVL.out
       have hkk:k≤4000:=by have:=HGF.out.tlen;omega
       have hw1:IntKind.i64.wrap ((k:Int)+sumI ((g.temps.take k).map (tempN vals'))+1)=(k:Int)+sumI ((g.temps.take k).map (tempN vals'))+1:=by rw [IntKind.wrap_i64];omega
       have hnx2:=fun hp=>htl.next2 HNLT.out.1 hlt hp (.cells #[.string (at' g.temps k).name,.bool (at' g.temps k).list] 101) (hlen hp)
       have hnx1:=fun hp=>htl.next1 HNLT.out.1 hlt hp (.cells #[.string (at' g.temps k).name,.bool (at' g.temps k).list] 101)
       clear htl
       generalize sumI ((g.temps.take k).map (tempN vals'))=S at *
       have fl2:=field_v43
       have t0:(0:Int)≤(k:Int):=Int.natCast_nonneg k
       have t1:(k:Int) < (g.temps.length:Int):=Int.ofNat_lt.2 hlt
       have HLT:=Lib.hid hlt
       cases hp:(at' g.temps k).list with
       | true=>
         have hle:u.l.length≤300000:=by rw [hlen hp];exact HVL.out _
         have hw2:IntKind.i64.wrap ((k:Int)+S+1+(u.l.length:Int))=(k:Int)+S+1+(u.l.length:Int):=by rw [IntKind.wrap_i64];omega
         have HNX:=Lib.hid (hnx2 hp)
         rw [hp] at n1 hA1 hAf hlook c0 c1 d1 df HNX
         clear hnx1 hnx2 hstq hpp htt hbb hbA hk7 hb7 hx7 hin hro hlen hts hle hk hlt hp hqz p1 p4 p5 hsr hN1
         go_wp2
         go_roundw
         case rel=>exact ⟨k+1,by go_num,HLT.out,HNX.out⟩
         case measure=>have:=HLT.out;simp [intOf];omega
       | false=>
         have HNX:=Lib.hid (hnx1 hp)
         rw [hp] at n1 hA1 hAf hlook c0 c1 d1 df HNX
         clear hnx1 hnx2 hstq hpp htt hbb hbA hk7 hb7 hx7 hin hro hlen hts hk hlt hp hqz p1 p4 p5 hsr hN1 hlook
         go_wp2
         go_roundw
         case rel=>exact ⟨k+1,by go_num,HLT.out,HNX.out⟩
         case measure=>have:=HLT.out;simp [intOf];omega
     · obtain rfl:k=g.temps.length:=by omega
       have hlt2:¬ (g.temps.length:Int) < (g.temps.length:Int):=by omega
       have hnb:=htl.nb
       rw [List.take_length,← HPU.out] at hnb
       have hbd:Below wq.heap.size wq wq.drew:=bel_drew (Below.refl _ _)
       obtain ⟨v,u,hlook,hvu,hcl⟩:=((HS5.out.mp.stays hstq (htl.kp.block M HS5.out.mp.lt HNLT.out.2.2.1)).stays (Stays.of_below hbd) rfl).find (s:=g.result) hsr
       have HVU:=Lib.hid (VlAt.stays (w:=wq.drew) (w':=wq) ⟨Nat.le_refl _,fun b hb a=>⟨rfl,a⟩⟩ hvu)
       obtain ⟨ua,uc,rfl,hin,hro⟩:=hvu
       have hlook:(Instr.lookup 137 (.map (some M)) (.string g.result) false).run Tryd.prog wq.drew=.ok (.agg #[.bool u.list,.int .i64 u.n,.slice ua u.l.length uc]) wq.drew:=hlook
       have hb6:=(htl.kp.block w.heap.size HNLT.out.2.2.2.2.2.2.1 HNLT.out.2.2.2.2.1).trans HBX.out.1
       have hb7:=(htl.kp.block G7 HNLT.out.2.2.2.2.2.2.2.1 HNLT.out.2.2.2.2.2.1).trans HBX.out.2
       have HOA:=Lib.hid (two_boxes HNLT.out.2.2.2.2.2.2.2.2 hb6 hb7 (.bool u.list) (.int .i64 u.n) (.slice ua u.l.length uc) (.int .i64 fi) (.int .i64 (puN lib (.mk (fi:Int) args res ns5))) (.slice ra ns5.length rc))
       have HOB:=Lib.hid (two_boxes (Ne.symm HNLT.out.2.2.2.2.2.2.2.2) hb7 hb6 (.int .i64 fi) (.int .i64 (puN lib (.mk (fi:Int) args res ns5))) (.slice ra ns5.length rc) (.bool u.list) (.int .i64 u.n) (.slice ua u.l.length uc))
       have HFIN:Hid (∀ w9,Keeps wq w9 (fun j=>j=w.heap.size∨j=G7)→CPost43 lib R (some ⟨b,off,none⟩) lc A w (.mk (fi:Int) args res ns5) left (.returned (.tuple #[.agg #[.bool u.list,.int .i64 u.n,.slice ua u.l.length uc],.agg #[.int .i64 fi,.int .i64 (puN lib (.mk (fi:Int) args res ns5)),.slice ra ns5.length rc],.bool true])) w9):=Lib.hid (fun w9 h9=>
        call_fin (lo:=left - costT apI lib (.mk (fi:Int) args res ns5)) HAP.out HRL.out rfl HMN.out.2.2 HMN.out.2.1 HMN.out.1 HW.out.2.1 HW.out.1 HT5.out HS5.out htl.kp h9 HVU.out (hcl.trans HRES.out) rfl HCL.out (by have:=HLO.out.1;rw [HCO.out.2.2.2];unfold need43 at this;rw [costTs] at this;omega) HLO.out.2 rfl)
       obtain ⟨x0,x1,x2⟩:=cells3 hnb
       obtain ⟨y0,y1,y2⟩:=cells3 hb6
       obtain ⟨z0,z1,z2⟩:=cells3 hb7
       have yf:=unfrozen hb6
       have zf:=unfrozen hb7
       have HNE:=Lib.hid HNLT.out.2.2.2.2.2.2.2.2
       have hne:=HNE.out
       have hne2:=Ne.symm HNE.out
       have hne3:=HNLT.out.2.2.2.2.1
       have hne4:=Ne.symm HNLT.out.2.2.2.2.1
       have hne5:=HNLT.out.2.2.2.2.2.1
       have hne6:=Ne.symm HNLT.out.2.2.2.2.2.1
       clear hstq hpp htt hbb htl hb6 hb7 hbd hin hro hcl hnb hqz p1 p4 hN1 hk
       have HA6:=Lib.hid (blk_drew HOA.out.1)
       have HA7:=Lib.hid (blk_drew HOA.out.2.1)
       have HAF:=Lib.hid (HFIN.out _ (HOA.out.2.2.same (Keeps.of_below _ (bel_drew (Below.refl _ _)))))
       have HB6:=Lib.hid (blk_drew HOB.out.2.1)
       have HB7:=Lib.hid (blk_drew HOB.out.1)
       have HBF:=Lib.hid (HFIN.out _ ((HOB.out.2.2.mono (fun _ e=>e.symm)).same (Keeps.of_below _ (bel_drew (Below.refl _ _)))))
       clear HOA HOB HFIN
       go_wp2
       go_region
       all_goals
        go_wp2
        (try simp only [Exit.inBlock,Exit.then])
        refine bodyPost_ret (results_two (P:=Tryd.prog) rfl _ _ w.heap.size G7 _ _ #[.bool u.list,.int .i64 u.n,.slice ua u.l.length uc] #[.int .i64 fi,.int .i64 (puN lib (.mk (fi:Int) args res ns5)),.slice ra ns5.length rc] (0,0) (0,0) _ _ (.bool true) rfl (by first|(with_reducible exact HA6.out)|(with_reducible exact HB6.out)) rfl (by first|(with_reducible exact HA7.out)|(with_reducible exact HB7.out)) rfl Tryd.underlying96 rfl (by kernel_rfl) Tryd.underlying49 rfl (by kernel_rfl)) rfl ?_
        first|(with_reducible exact HAF.out)|(with_reducible exact HBF.out)
end Go.Proofs.YtjhimhlebbamoaaDoor
/- The reference of layer 43:no binds. -/
namespace Go.Proofs.YtjhimhlebbamoaaDoor
open Go.RowKit
theorem binds43_zero (lib:List Fn):XB43 lib 0:=by
 intro C A w rv left vals ns K l lv calls rest vals' c hC hex hm hneed hle hgood hto htn htl htr hln hsm hst hbd
 subst hC
 have hl:l=[]:=by
  cases l with
  | nil=>rfl
  | cons b r=>
    exfalso
    obtain ⟨v1,r1,cb,c2,hx,h2,hcc⟩:=cexec_cons hex
    obtain ⟨h1,u1,e1⟩:=cexecB_used apI C.lib _ _ _ _ _ _ hx
    obtain ⟨h3,u2,e2⟩:=cexecBs_used apI C.lib _ _ _ _ _ _ h2
    have z1:=costTs_nonneg apI C.lib u1
    have z2:=costTs_nonneg apI C.lib u2
    have e3:costTs apI C.lib calls=costTs apI C.lib u1+costTs apI C.lib r1:=by rw [e1,costTs_append]
    have e4:costTs apI C.lib r1=costTs apI C.lib u2+costTs apI C.lib rest:=by rw [e2,costTs_append]
    unfold need43 at hm
    have:(1:Int)≤0:=by
     have:((0:Nat):Int)=0:=rfl
     omega
    omega
 subst hl
 rw [cexecBs] at hex
 simp only [Option.some.injEq,Prod.mk.injEq] at hex
 obtain ⟨rfl,rfl,rfl⟩:=hex
 obtain ⟨hlen,va,vc,rfl⟩:=(bds_rows.1 hbd).form
 have HST:=Lib.hid (And.intro hst hsm)
 have HN:Hid (need43 C.lib 0 calls calls=0):=Lib.hid (by unfold need43;omega)
 clear hbd hst hsm htr hln hgood hto htn htl hm hneed
 go_enter Tryd.func53,Tryd.ntmps53
 go_wp2
 go_loopw [9] (fun i wr=>i=.int .i64 0∧wr=w) (fun i _=>0)
 case atStart=>exact ⟨rfl,rfl⟩
 case round=>
  obtain ⟨rfl,rfl⟩:=hrel
  have hlt':¬ ((0:Int) < (0:Int)):=by omega
  go_wp2
  go_ret
  rw [HN.out]
  exact ⟨rfl,A,rv,left,ns,K,HST.out.1,RStep.refl _ _ _ _,rfl,by omega,Int.le_refl _,HST.out.2⟩
end Go.Proofs.YtjhimhlebbamoaaDoor
