/- Contracts and plain lemmas (FcaC): no statement of the seat is proved here. -/
import Derived.Test.YtjhimhlebbamoaaDoorZq13
/- Walks of package funeval:(*evaluator).call. -/
set_option linter.unusedSimpArgs false
set_option linter.unusedVariables false
set_option linter.unusedSectionVars false
set_option maxRecDepth 100000
set_option maxHeartbeats 3200000
namespace Go.Proofs.YtjhimhlebbamoaaDoor
open Go.RowKit
theorem ca_deep (d:Nat) (C:EC) (f:Int) (av:Value) (args:List Vl) (A:Nat→Prop) (w:World) (fuel active:Int) (h30:30≤active) (hst:EvS0 C A w fuel active):
 Calls Tryd.prog 51 #[.pointer (some ⟨C.ev,0,none⟩),.int .i64 f,av] w (C0Post C A w active (callN apI C.lib d f args fuel active)):=by
 have HX:Hid (callN apI C.lib d f args fuel active=⟨noVl,19,fuel,default⟩):=Lib.hid (by unfold callN;rw [if_pos h30])
 have HST:=Lib.hid hst
 have e1:=cell_blk (hst.below (bel_alloc (x:=.cells #[.int .i64 0,.slice none 0 0,.bool false,.int .i64 0,.slice none 0 0,.slice none 0 0] 43) (Below.refl _ _))).ev 2 rfl
 clear hst
 go_enter Tryd.func51,Tryd.ntmps51
 go_wp2
 (try simp only [Exit.inBlock,Exit.then])
 refine bodyPost_ret (results_cell_row2 (P:=Tryd.prog) rfl _ _ w.heap.size _ _ _ _ _ rfl (at_new0 w _) rfl Tryd.underlying43 rfl (by kernel_rfl)) rfl ?_
 rw [HX.out]
 exact ⟨A,_,rfl,tree_no _ rfl (by simp),HST.out.below (bel_alloc (Below.refl _ _)),(EStep.refl C C.ev A w (.slice none 0 0)).below (bel_alloc (Below.refl _ _))⟩
theorem ca_main (d:Nat) (H:XEv d) (C:EC) (fi:Nat) (av:Option Addr) (ac:Nat) (args:List Vl) (A:Nat→Prop) (w:World) (fuel active:Int) (hfu:fuel.toNat < d) (hfl:fuel≤1000000) (hac:0≤active∧active < 30) (hfi:fi < C.lib.length) (hal:args.length=(at' C.lib fi).params.length) (hvl:∀ a ∈ args,VLen a) (hr:RowsAt VlE A w (.slice av args.length ac) args) (hst:EvS0 C A w fuel active):
 Calls Tryd.prog 51 #[.pointer (some ⟨C.ev,0,none⟩),.int .i64 (fi:Int),.slice av args.length ac] w (C0Post C A w active (callN apI C.lib d fi args fuel active)):=by
 obtain ⟨hform,hcalls,hbsz,hpsz⟩:=C.ok fi hfi
 obtain ⟨hlen0,_⟩:=hst.lib.form
 unfold maxLen at hlen0
 have HX:Hid (callN apI C.lib d fi args fuel active=(let y:=evalN apI C.lib d (at' C.lib fi).body (bindPars (at' C.lib fi).params args) fuel (active+1)
  if y.err≠0 then ⟨noVl,y.err,y.fuel,default⟩ else ⟨cleanV y.val,0,y.fuel,.mk fi (args.map cleanV) (cleanV y.val) y.calls⟩)):=Lib.hid (by unfold callN;rw [if_neg (by omega)];rfl)
 have hB0:Below w.heap.size w (w.alloc (.cells #[.int .i64 0,.slice none 0 0,.bool false,.int .i64 0,.slice none 0 0,.slice none 0 0] 43)):=bel_alloc (Below.refl _ _)
 have hB1:Below w.heap.size w ((w.alloc (.cells #[.int .i64 0,.slice none 0 0,.bool false,.int .i64 0,.slice none 0 0,.slice none 0 0] 43)).alloc (.map #[] 0)):=bel_alloc hB0
 have e2:=cell_blk (hst.below hB0).ev 2 rfl
 have e0:=cell_blk (hst.below hB1).ev 0 rfl
 obtain ⟨b,off,cap,pa,pc,ka,kc,he,hb,_,hAb,c0,c1,c2,c3,c4,c5,c6,hsn,hpar,hnd⟩:=(hst.lib.stays (Stays.of_below hB1)).at hfi
 simp only [Value.slice.injEq] at he
 obtain ⟨hla,-,-⟩:=he
 rw [hla] at e0
 have HLA:=Lib.hid hla
 have HST:=Lib.hid hst
 have HAL:=Lib.hid hal
 have HB1:=Lib.hid hB1
 have HR:=Lib.hid hr
 have HPAR:=Lib.hid hpar
 have HVL:=Lib.hid hvl
 have HZ:=Lib.hid (at_old w (.cells #[.int .i64 0,.slice none 0 0,.bool false,.int .i64 0,.slice none 0 0,.slice none 0 0] 43) (.map #[] 0))
 have HPL:Hid (PLoop A ((w.alloc (.cells #[.int .i64 0,.slice none 0 0,.bool false,.int .i64 0,.slice none 0 0,.slice none 0 0] 43)).alloc (.map #[] 0)) (w.heap.size+1) (at' C.lib fi).params args 0 ((w.alloc (.cells #[.int .i64 0,.slice none 0 0,.bool false,.int .i64 0,.slice none 0 0,.slice none 0 0] 43)).alloc (.map #[] 0))):=
  Lib.hid ⟨Nat.zero_le _,Keeps.refl _ _,fun _=>none,(by simpa using SMapLe.made Tryd.prog 9 (w.alloc (.cells #[.int .i64 0,.slice none 0 0,.bool false,.int .i64 0,.slice none 0 0,.slice none 0 0] 43))),fun s=>⟨nofun,fun _=>rfl⟩⟩
 have HWS:Hid (((w.alloc (.cells #[.int .i64 0,.slice none 0 0,.bool false,.int .i64 0,.slice none 0 0,.slice none 0 0] 43)).alloc (.map #[] 0)).heap.size=w.heap.size+2):=Lib.hid (by simp)
 have hmm:=@run_makeMap Tryd.prog
 have i0:(fi:Int) < (C.lib.length:Int):=by omega
 clear hst hB0 hB1 hal hr hla hpar hnd hvl c0 c2 c3 c4 c5 c6
 go_enter Tryd.func51,Tryd.ntmps51
 go_wp2
 clear hmm
 generalize ((w.alloc (.cells #[.int .i64 0,.slice none 0 0,.bool false,.int .i64 0,.slice none 0 0,.slice none 0 0] 43)).alloc (.map #[] 0))=W1 at *
 go_loopw [33] (fun i wr=>∃ k:Nat,i=.int .i64 k∧PLoop A W1 (w.heap.size+1) (at' C.lib fi).params args k wr) (fun i _=>(at' C.lib fi).params.length - (intOf i).toNat)
 case atStart=>exact ⟨0,rfl,HPL.out⟩
 case round=>
  clear HPL e2 e0 c1
  obtain ⟨k,rfl,hk,hkp,m,hm,hen⟩:=hrel
  have hws:=HWS.out
  have hzk:=hkp.size
  have hAo:∀ j,A j→j < w.heap.size:=fun j a=>HST.out.alt j a
  have hbl:Below w.heap.size w wr:=HB1.out.trans (hkp.below (fun j e=>by omega) (by omega))
  by_cases hlt:k < (at' C.lib fi).params.length
  · have hkA:∀ j,A j→j < W1.heap.size∧j≠w.heap.size+1:=fun j a=>by have:=hAo j a;omega
    obtain ⟨b',off',cap',he,hb',_,_,p0,p1,hs⟩:=(HPAR.out.stays (hkp.stays (fun j a _=>(hkA j a).2))).at hlt
    simp only [Value.slice.injEq] at he
    obtain ⟨rfl,-,rfl⟩:=he
    have hbx:Below wr.heap.size wr (wr.alloc (.cells #[.string (at' (at' C.lib fi).params k).name,.bool (at' (at' C.lib fi).params k).list] 101)):=bel_alloc (Below.refl _ _)
    have hr2:=(HR.out.stays (Stays.of_below hbl)).stays (Stays.of_below hbx)
    obtain ⟨b2,off2,cap2,va,vc,he,_,_,_,q0,q1,q2,hvn,hvr⟩:=vls_at hr2 (j:=k) (by have:=HAL.out;omega)
    simp only [Value.slice.injEq] at he
    obtain ⟨rfl,-,rfl⟩:=he
    have r0:(wr.alloc (.cells #[.string (at' (at' C.lib fi).params k).name,.bool (at' (at' C.lib fi).params k).list] 101)).cell? ⟨wr.heap.size,0,none⟩=some (.string (at' (at' C.lib fi).params k).name):=cell_blk (at_new0 wr _) 0 rfl
    have i1:(k:Int) < (args.length:Int):=by have:=HAL.out;omega
    have HM:=Lib.hid (hm.below hbx)
    have HU:Hid (VlAt A (wr.alloc (.cells #[.string (at' (at' C.lib fi).params k).name,.bool (at' (at' C.lib fi).params k).list] 101)).drew (.agg #[.bool (at' args k).list,.int .i64 (at' args k).n,.slice va (at' args k).l.length vc]) (at' args k)):=Lib.hid ⟨va,vc,rfl,hvn,hvr⟩
    have HBX:=Lib.hid (bel_drew hbx)
    have HEN:=Lib.hid hen
    have HKP:=Lib.hid hkp
    have HKA:=Lib.hid hkA
    have HKK:=Lib.hid hws
    clear hr2 hvr hm hen hbx hkp hbl hws hzk
    go_wp2
    generalize (wr.alloc (.cells #[.string (at' (at' C.lib fi).params k).name,.bool (at' (at' C.lib fi).params k).list] 101))=W2 at *
    go_still_tail 7,(by kernel_rfl)
    change wpList _ _ _ _ _ W2.drew
    go_wp2_with (refine wpl_ins MVl rfl (.tmp 38) (.tmp 40) (.tmp 44) (.inr rfl) rfl rfl rfl (by exact HM.out) hs (by unfold maxLen;omega) ?_)
    intro w3 hm3 hg3
    have HN:=Lib.hid (ploop_next HAL.out hlt HKP.out HEN.out HKA.out HBX.out HU.out hm3 hg3 (by have:=HKK.out;omega))
    clear hm3 hg3 p0 p1 q0 q1 q2 r0
    go_wp2
    go_roundw
    case rel=>exact ⟨k+1,by go_num,HN.out⟩
    case measure=>simp [intOf];omega
  · obtain rfl:k=(at' C.lib fi).params.length:=by omega
    rw [List.take_length,List.take_of_length_le (Nat.le_of_eq HAL.out)] at hen
    have hb2:Below wr.heap.size wr (wr.alloc (.cells #[.slice none 0 0] 41)):=bel_alloc (Below.refl _ _)
    have HB2:=Lib.hid (hbl.trans (hb2.mono hbl.size))
    have hg2:=at_new0 wr (.cells #[.slice none 0 0] 41)
    have hs3:=call_in HST.out HB2.out (mb:=w.heap.size+1) (g:=wr.heap.size) ⟨by omega,by have:=hb2.size;omega⟩ (by omega) hg2 (by omega)
    have hev2:=blk_below HB2.out HST.out.ev
    have e2:=cell_blk hev2 2 rfl
    have f2:=unfrozen hev2
    have hk3:=keeps_set (wr.alloc (.cells #[.slice none 0 0] 41)) C.ev 2 (.int .i64 (active+1))
    have hevlt:=HST.out.evlt
    have hst3:Stays A (fun k=>A k∨k=w.heap.size+1) wr ((wr.alloc (.cells #[.slice none 0 0] 41)).setCell ⟨C.ev,2,none⟩ (.int .i64 (active+1))):=⟨Nat.le_trans hb2.size hk3.size,fun b h a=>⟨(hk3.block b (Nat.lt_of_lt_of_le h hb2.size) (fun e=>HST.out.mutA b (.inl e) a)).trans (hb2.block b h),.inl a⟩⟩
    have he3:EnvAt (fun k=>A k∨k=w.heap.size+1) ((wr.alloc (.cells #[.slice none 0 0] 41)).setCell ⟨C.ev,2,none⟩ (.int .i64 (active+1))) (w.heap.size+1) (bindPars (at' C.lib fi).params args) (at' C.lib fi).params.length:=
     EnvOf.at (.inr rfl) (hm.same ((hk3.block _ (by have:=hb2.size;omega) (by omega)).trans (hb2.block _ (by omega)))) (EnvOf.stays hen hst3)
    obtain ⟨b',off',cap',pa',pc',ka',kc',he,hb',_,hAb',_,_,_,c3,c4,c5,c6,_,_,hnd⟩:=hs3.lib.at hfi
    simp only [Value.slice.injEq] at he
    obtain ⟨he,-,-⟩:=he
    rw [HLA.out,Option.some.injEq,Addr.mk.injEq] at he
    obtain ⟨rfl,rfl,-⟩:=he
    have e3:=cell_blk hs3.ev 0 rfl
    rw [HLA.out] at e3
    have HC:=Lib.hid (H C (at' C.lib fi).body _ wr.heap.size (w.heap.size+1) _ _ (.slice none 0 0) [] _ (at' C.lib fi).params.length fuel (active+1) hfu hfl (by omega) (by simp;omega) (by omega) hform hcalls (bindPars_len _ _ HVL.out) hnd hs3 he3)
    have hcl4:=eval_few C.lib d (at' C.lib fi).body (bindPars (at' C.lib fi).params args) fuel (active+1) (by omega) hfl
    have hylen:=(eval_len apI C.lib d (at' C.lib fi).body (bindPars (at' C.lib fi).params args) fuel (active+1) (bindPars_len _ _ HVL.out)).1
    generalize evalN apI C.lib d (at' C.lib fi).body (bindPars (at' C.lib fi).params args) fuel (active+1)=y at HC HX hylen hcl4
    have HK3:=Lib.hid hk3
    have hz1:(wr.alloc (.cells #[.slice none 0 0] 41)).heap[w.heap.size]?=some (.cells #[.int .i64 0,.slice none 0 0,.bool false,.int .i64 0,.slice none 0 0,.slice none 0 0] 43 (0,0)):=(hb2.block _ (by omega)).trans ((hkp.block _ (by omega) (by omega)).trans HZ.out)
    have HZ3:=Lib.hid (blk_set (o:=2) (x:=.int .i64 (active+1)) hz1 (g:=C.ev) (by omega))
    have hwr:IntKind.i64.wrap (active+1)=active+1:=by rw [IntKind.wrap_i64];omega
    have hwr2:IntKind.i64.wrap active=active:=by rw [IntKind.wrap_i64];omega
    have HAO:=Lib.hid hAo
    have hgw:w.heap.size≤wr.heap.size:=by omega
    have HGW:=Lib.hid (⟨hws,hzk⟩:W1.heap.size=w.heap.size+2∧W1.heap.size≤wr.heap.size)
    clear hen hm hs3 hk3 hst3 he3 hnd hg2 hkp hbl hb2 hz1 hws hzk hAo
    go_wp2_with fail
    refine HC.out.mono ?_
    rintro e w4 ⟨A2,rv2,v4,rfl,hv4,hs4,ht4⟩
    obtain ⟨a4,k4,rfl,hn4,hr4⟩:=hv4
    obtain ⟨o1,o2,o3⟩:=call_out HST.out HB2.out (by omega) hgw HK3.out hs4 ht4
    obtain ⟨zz,hzA⟩:=call_own ht4 HZ3.out (by omega) (by have:=HGW.out;omega) (by omega) (fun a=>by have:=HAO.out _ a;omega)
    have hb5:Below w4.heap.size w4 (w4.alloc (.cells #[.bool y.val.list,.int .i64 y.val.n,.slice a4 y.val.l.length k4] 40)):=bel_alloc (Below.refl _ _)
    have hev5:=(o1.below hb5).ev
    have e5:=cell_blk hev5 2 rfl
    have f5:=unfrozen hev5
    have HS6:=Lib.hid ((o1.below hb5).setActive active)
    have HT6:=Lib.hid ((o2.below hb5).setEv hevlt 2 (.int .i64 active))
    have HZ6:=Lib.hid (blk_set (o:=2) (x:=.int .i64 active) (blk_below hb5 zz) (g:=C.ev) (by omega))
    have hk6:Keeps w4 ((w4.alloc (.cells #[.bool y.val.list,.int .i64 y.val.n,.slice a4 y.val.l.length k4] 40)).setCell ⟨C.ev,2,none⟩ (.int .i64 active)) (fun k=>k=C.ev):=(Keeps.of_below _ hb5).same (keeps_set _ C.ev 2 _)
    have HS4:=Lib.hid hs4
    have HO3:=Lib.hid o3
    have HK6:=Lib.hid hk6
    have HV6:Hid (VlAt A2 ((w4.alloc (.cells #[.bool y.val.list,.int .i64 y.val.n,.slice a4 y.val.l.length k4] 40)).setCell ⟨C.ev,2,none⟩ (.int .i64 active)) (.agg #[.bool y.val.list,.int .i64 y.val.n,.slice a4 y.val.l.length k4]) y.val):=Lib.hid ((show VlAt A2 w4 _ y.val from ⟨a4,k4,rfl,hn4,hr4⟩).stays (hk6.stays (fun k a _ e=>hs4.mutA k (.inl e) a)))
    have hzf:=unfrozen HZ6.out
    obtain ⟨z0,z1,z2,z3,z4,z5⟩:=cells6 HZ6.out
    have HZA:=Lib.hid hzA
    have HOL:Hid (∀ k,rv2.ownBlock=some k→w.heap.size < k∧k < ((w4.alloc (.cells #[.bool y.val.list,.int .i64 y.val.n,.slice a4 y.val.l.length k4] 40)).setCell ⟨C.ev,2,none⟩ (.int .i64 active)).heap.size):=Lib.hid (fun k e=>⟨Nat.lt_of_lt_of_le (Nat.lt_of_le_of_lt hgw (by simp)) (o3 k e).1,Nat.lt_of_lt_of_le (hs4.row.lt e).2 hk6.size⟩)
    have HRC:Hid (RowsAt TrE (fun k=>A2 k∨rv2.ownBlock=some k) ((w4.alloc (.cells #[.bool y.val.list,.int .i64 y.val.n,.slice a4 y.val.l.length k4] 40)).setCell ⟨C.ev,2,none⟩ (.int .i64 active)) rv2 (if C.tr=true then y.calls else [])):=Lib.hid (by
     have h:=hs4.row
     rw [List.nil_append] at h
     refine (h.keeps hk6 (fun k e e2=>hs4.rne (e2 ▸ e)) (fun k _ a e=>hs4.mutA k (.inl e) a)).shut (fun k a=>.inl a) (fun k e=>.inr e) ?_
     have h1:=calls_len [] y.calls C.tr
     simp only [List.nil_append,List.length_nil] at h1
     unfold maxLen;omega)
    have HCB:Hid (((w4.alloc (.cells #[.bool y.val.list,.int .i64 y.val.n,.slice a4 y.val.l.length k4] 40)).setCell ⟨C.ev,2,none⟩ (.int .i64 active)).heap[wr.heap.size]?=some (.cells #[rv2] 41 (0,0))):=Lib.hid ((hk6.block _ hs4.cblt (fun e=>hs4.ne e.symm)).trans hs4.cbk)
    have hyb:((w4.alloc (.cells #[.bool y.val.list,.int .i64 y.val.n,.slice a4 y.val.l.length k4] 40)).setCell ⟨C.ev,2,none⟩ (.int .i64 active)).heap[w4.heap.size]?=some (.cells #[.bool y.val.list,.int .i64 y.val.n,.slice a4 y.val.l.length k4] 40 (0,0)):=blk_set (at_new0 w4 _) (by have:=hs4.evlt;omega)
    obtain ⟨b0,b1,b2⟩:=cells3 hyb
    clear hev2 hs4 ht4 o1 o2 o3 zz hcl4 hev5 hk6 hyb hzA hr4 HC e3 c3 c4 c5 c6 hb5
    by_cases hye:y.err=0
    · have dx:(y.err == 0)=true:=by simp [hye]
      have dx':(y.err != 0)=false:=by simp [hye]
      have hxl:y.val.l.length≤100000:=by unfold VLen at hylen;omega
      have HCL:=Lib.hid (cloneV _ y.val A2 _ HV6.out hxl)
      have HY:=Lib.hid hye
      clear hye
      go_wp2_with fail
      generalize ((w4.alloc (.cells #[.bool y.val.list,.int .i64 y.val.n,.slice a4 y.val.l.length k4] 40)).setCell ⟨C.ev,2,none⟩ (.int .i64 active))=W6 at *
      refine HCL.out.mono ?_
      rintro e w7 ⟨v7,rfl,hv7,hb7⟩
      obtain ⟨a7,k7,rfl,hn7,hr7⟩:=hv7
      have HX2:Hid (callN apI C.lib d fi args fuel active=⟨cleanV y.val,0,y.fuel,.mk fi (args.map cleanV) (cleanV y.val) y.calls⟩):=Lib.hid (by rw [HX.out];simp [HY.out])
      generalize hrr:cleanV y.val=r at *
      have hb8:Below W6.heap.size W6 (w7.alloc (.cells #[.int .i64 0,.slice none 0 0,.bool r.list,.int .i64 r.n,.slice a7 r.l.length k7,.slice none 0 0] 43)):=bel_alloc hb7
      obtain ⟨t0,t1,t2,t3,t4,t5⟩:=cells6 (at_new0 w7 (.cells #[.int .i64 0,.slice none 0 0,.bool r.list,.int .i64 r.n,.slice a7 r.l.length k7,.slice none 0 0] 43))
      have HZ8:=Lib.hid (blk_below hb8 HZ6.out)
      obtain ⟨z0,z1,z2,z3,z4,z5⟩:=cells6 HZ8.out
      have zf:=unfrozen HZ8.out
      have e8:=cell_blk (HS6.out.below hb8).ev 3 rfl
      have hWz:W6.heap.size≤w7.heap.size:=hb7.size
      have HB8:=Lib.hid hb8
      have HR8:Hid (VlAt (fun k=>W6.heap.size≤k∧k < w7.heap.size) (w7.alloc (.cells #[.int .i64 0,.slice none 0 0,.bool r.list,.int .i64 r.n,.slice a7 r.l.length k7,.slice none 0 0] 43)) (.agg #[.bool r.list,.int .i64 r.n,.slice a7 r.l.length k7]) r):=Lib.hid ((show VlAt (Up W6.heap.size) w7 _ r from ⟨a7,k7,rfl,hn7,hr7⟩).stays (show Stays (Up W6.heap.size) (fun k=>W6.heap.size≤k∧k < w7.heap.size) w7 (w7.alloc (.cells #[.int .i64 0,.slice none 0 0,.bool r.list,.int .i64 r.n,.slice a7 r.l.length k7,.slice none 0 0] 43)) from ⟨by simp,fun b hb a=>⟨(bel_alloc (Below.refl _ _)).block b hb,a,hb⟩⟩))
      have HRR:=Lib.hid hrr
      have HR7:=Lib.hid hr7
      clear hb8 hr7 hrr b0 b1 b2 e5 f5 HCL
      by_cases htr:C.tr=true
      · rw [htr] at e8
        have HTR:=Lib.hid htr
        clear htr
        have hb9:Below W6.heap.size W6 (w7.alloc (.cells #[.int .i64 (fi:Int),.slice none 0 0,.bool r.list,.int .i64 r.n,.slice a7 r.l.length k7,.slice none 0 0] 43)):=bel_alloc hb7
        have HB9:=Lib.hid hb9
        have HZ9:=Lib.hid (blk_below hb9 HZ6.out)
        have HR9:Hid (VlAt (fun k=>W6.heap.size≤k∧k < w7.heap.size) (w7.alloc (.cells #[.int .i64 (fi:Int),.slice none 0 0,.bool r.list,.int .i64 r.n,.slice a7 r.l.length k7,.slice none 0 0] 43)) (.agg #[.bool r.list,.int .i64 r.n,.slice a7 r.l.length k7]) r):=Lib.hid ((show VlAt (Up W6.heap.size) w7 _ r from ⟨a7,k7,rfl,hn7,HR7.out⟩).stays (show Stays (Up W6.heap.size) (fun k=>W6.heap.size≤k∧k < w7.heap.size) w7 (w7.alloc (.cells #[.int .i64 (fi:Int),.slice none 0 0,.bool r.list,.int .i64 r.n,.slice a7 r.l.length k7,.slice none 0 0] 43)) from ⟨by simp,fun b hb a=>⟨(bel_alloc (Below.refl _ _)).block b hb,a,hb⟩⟩))
        have HS9:Hid ((w7.alloc (.cells #[.int .i64 (fi:Int),.slice none 0 0,.bool r.list,.int .i64 r.n,.slice a7 r.l.length k7,.slice none 0 0] 43)).heap.size=w7.heap.size+1):=Lib.hid (by simp)
        have HA9:=Lib.hid (al_start (W:=w7.alloc (.cells #[.int .i64 (fi:Int),.slice none 0 0,.bool r.list,.int .i64 r.n,.slice a7 r.l.length k7,.slice none 0 0] 43)) (at_new0 w7 (.cells #[.int .i64 (fi:Int),.slice none 0 0,.bool r.list,.int .i64 r.n,.slice a7 r.l.length k7,.slice none 0 0] 43)) rfl)
        have HC9:=Lib.hid (blk_below hb9 HCB.out)
        have HARG:Hid (∀ wx,Keeps (w7.alloc (.cells #[.int .i64 (fi:Int),.slice none 0 0,.bool r.list,.int .i64 r.n,.slice a7 r.l.length k7,.slice none 0 0] 43)) wx (fun k=>k=w7.heap.size)→RowsAt VlE A2 wx (.slice av args.length ac) args):=Lib.hid (fun wx hx=>((HR.out.stays (HST.out.stays HT6.out)).stays (Stays.of_below hb9)).stays (hx.stays (fun k a _ e=>by have:=HS6.out.alt k a;omega)))
        clear t0 t1 t2 t3 t4 t5 z0 z1 z2 z3 z4 z5 zf HZ8 HB8 hb9 HR8
        go_wp2
        generalize (w7.alloc (.cells #[.int .i64 (fi:Int),.slice none 0 0,.bool r.list,.int .i64 r.n,.slice a7 r.l.length k7,.slice none 0 0] 43))=W8 at *
        obtain ⟨wo,rfl⟩:∃ wo:World,wo=wr:=⟨_,rfl⟩
        go_loopw [89] (fun i wx=>∃ k:Nat,i=.int .i64 k∧k≤args.length∧∃ a n c,AL W8 w7.heap.size W8.heap.size (.int .i64 (fi:Int)) (.bool r.list) (.int .i64 r.n) (.slice a7 r.l.length k7) ((args.take k).map cleanV) a n c wx) (fun i _=>args.length - (intOf i).toNat)
        case atStart=>exact ⟨0,rfl,Nat.zero_le _,none,0,0,HA9.out⟩
        case round=>
         clear HA9 e8
         obtain ⟨q,rfl,hq,aq,nq,cq,hAL⟩:=hrel
         generalize hL:(args.take q).map cleanV=L at hAL
         have HLL:=Lib.hid hL
         clear hL
         have HALQ:=Lib.hid hAL
         have hs9:=HS9.out
         have hzq:=hAL.size
         by_cases hlt:q < args.length
         · obtain ⟨b2,off2,cap2,va,vc,he,hb2,_,_,q0,q1,q2,hvn,hvr⟩:=vls_at (HARG.out _ hAL.keeps) hlt
           simp only [Value.slice.injEq] at he
           obtain ⟨rfl,-,rfl⟩:=he
           have hbx:Below wr.heap.size wr (wr.alloc (.cells #[.bool (at' args q).list,.int .i64 (at' args q).n,.slice va (at' args q).l.length vc] 40)):=bel_alloc (Below.refl _ _)
           have HCL2:Hid (∀ w1,Below (wr.alloc (.cells #[.bool (at' args q).list,.int .i64 (at' args q).n,.slice va (at' args q).l.length vc] 40)).heap.size (wr.alloc (.cells #[.bool (at' args q).list,.int .i64 (at' args q).n,.slice va (at' args q).l.length vc] 40)) w1→Calls Tryd.prog 66 #[.agg #[.bool (at' args q).list,.int .i64 (at' args q).n,.slice va (at' args q).l.length vc]] w1 (ClonePost (at' args q) w1)):=Lib.hid (fun w1 h1=>cloneV _ (at' args q) A2 w1 (((show VlAt A2 wr _ (at' args q) from ⟨va,vc,rfl,hvn,hvr⟩).stays (Stays.of_below hbx)).stays (Stays.of_below h1)) (by have:=at_len HVL.out q;unfold VLen at this;omega))
           have HT:Hid (∀ w1,Below wr.heap.size wr w1→w1.cell? ⟨w7.heap.size,1,none⟩=some (.slice aq nq cq)∧w1.cell? ⟨wr.heap.size,0,none⟩=w1.cell? ⟨wr.heap.size,0,none⟩):=Lib.hid (fun w1 h1=>⟨cell_blk (blk_below h1 HALQ.out.t) 1 rfl,rfl⟩)
           have HBX:Hid (∀ w1,Below (wr.alloc (.cells #[.bool (at' args q).list,.int .i64 (at' args q).n,.slice va (at' args q).l.length vc] 40)).heap.size (wr.alloc (.cells #[.bool (at' args q).list,.int .i64 (at' args q).n,.slice va (at' args q).l.length vc] 40)) w1→w1.cell? ⟨wr.heap.size,0,none⟩=some (.bool (at' args q).list)∧w1.cell? ⟨wr.heap.size,1,none⟩=some (.int .i64 (at' args q).n)∧w1.cell? ⟨wr.heap.size,2,none⟩=some (.slice va (at' args q).l.length vc)):=Lib.hid (fun w1 h1=>cells3 (blk_below h1 (at_new0 wr (.cells #[.bool (at' args q).list,.int .i64 (at' args q).n,.slice va (at' args q).l.length vc] 40))))
           have HTK:Hid ((args.take (q+1)).map cleanV=L ++ [cleanV (at' args q)]):=Lib.hid (by rw [← HLL.out,List.take_succ_eq_append_getElem hlt,at_eq hlt,List.map_append];rfl)
           have HQL:Hid (L.length=q):=Lib.hid (by rw [← HLL.out];simp;omega)
           have hab:args.length≤8:=by have:=HAL.out;omega
           have e2:q+1≤args.length:=hlt
           have e3:args.length - (intOf (.int .i64 ((q:Int)+1))).toNat < args.length - (intOf (.int .i64 (q:Int))).toNat:=by simp only [intOf];omega
           obtain ⟨r0,-⟩:=HT.out (wr.alloc (.cells #[.bool (at' args q).list,.int .i64 (at' args q).n,.slice va (at' args q).l.length vc] 40)) hbx
           obtain ⟨x0,x1,x2⟩:=HBX.out (wr.alloc (.cells #[.bool (at' args q).list,.int .i64 (at' args q).n,.slice va (at' args q).l.length vc] 40)) (Below.refl _ _)
           clear hAL hvr hvn
           go_wp2
           go_region_law (first
            | (go_simp;go_at_call 66;with_reducible refine (HCL2.out _ (by (repeat (with_reducible first|exact Below.refl _ _|refine bel_drew ?_|refine bel_alloc ?_|(apply bel_step;focus assumption))))).mono ?_;intro e w5 hp;obtain ⟨a5,k5,rfl,hw5,HRW,r1,r2⟩:=HALQ.out.cloned (by (repeat (with_reducible first|exact Below.refl _ _|refine bel_drew ?_|refine bel_alloc ?_|(apply bel_step;focus assumption)))) hp;clear hp)
            | (refine step_rows TVl rfl (by decide) (by rfl) (.tmp 94) (.tmp 97) (by rfl) (by rfl) (by rfl) HRW.out.1 HRW.out.2.1 HRW.out.2.2 (by have:=HQL.out;unfold maxLen;simp;omega) (by have:=HQL.out;simp;omega) (Nat.le_trans hzq (Below.size (bel_alloc hw5))) ?_;intro a2 c2 w6 h4 hg4 hn4;have hm4:=HALQ.out.after (bel_alloc hw5) hg4;have HO2:=Lib.hid (HALQ.out.step hm4 h4 (by simp));obtain ⟨p0,p1,p2,p3,p4,p5⟩:=cells6 hm4.1;have pf:=unfrozen hm4.1;clear h4 hg4 hn4 hm4)
            | fail)
           all_goals
            go_wp2
            exact ⟨⟨q+1,by go_num,e2,a2,_,c2,by rw [HTK.out];exact HO2.out⟩,e3⟩
         · obtain rfl:q=args.length:=by omega
           have HLE:Hid (L=args.map cleanV):=Lib.hid (by rw [← HLL.out,List.take_length])
           have hk:=HALQ.out.keeps
           have hbw:Below W6.heap.size W6 wr:=HB9.out.trans (hk.below (fun k e=>by omega) HB9.out.size)
           have hcb:=(hk.block wo.heap.size (by have:=(Array.getElem?_eq_some_iff.1 HC9.out).1;omega) (by have:=(Array.getElem?_eq_some_iff.1 HCB.out).1;omega)).trans HC9.out
           have hz9:=(hk.block w.heap.size (by have:=(Array.getElem?_eq_some_iff.1 HZ9.out).1;omega) (by have:=(Array.getElem?_eq_some_iff.1 HZ6.out).1;omega)).trans HZ9.out
           have g0:=cell_blk hcb 0 rfl
           obtain ⟨ra,rn,rc,hrv⟩:∃ ra rn rc,rv2=.slice ra rn rc:=by
            obtain ⟨_,a,c,h⟩:=HRC.out.form
            exact ⟨a,_,c,h⟩
           rw [hrv] at g0
           have HRV:=Lib.hid hrv
           have hT9:=heap_setCell_same wr w7.heap.size 5 _ _ (.slice ra rn rc) HALQ.out.t
           simp only [List.setIfInBounds_toArray,List.set_cons_zero,List.set_cons_succ] at hT9
           obtain ⟨t0,t1,t2,t3,t4,t5⟩:=cells6 hT9
           have hz10:=blk_set (o:=5) (x:=.slice ra rn rc) hz9 (g:=w7.heap.size) (by have:=(Array.getElem?_eq_some_iff.1 HZ6.out).1;omega)
           obtain ⟨z0,z1,z2,z3,z4,z5⟩:=cells6 hz10
           have zf:=unfrozen hz10
           have HT9:=Lib.hid hT9
           have HZ10:=Lib.hid hz10
           have tf:=unfrozen HALQ.out.t
           obtain ⟨-,-,-,-,-,y5⟩:=cells6 HALQ.out.t
           have HBW:=Lib.hid hbw
           have HZW:=Lib.hid hz9
           clear hcb hz9 hbw hk hAL hz10 hT9 hrv
           go_wp2
           (try simp only [Exit.inBlock,Exit.then])
           refine bodyPost_ret (results_cell_row2 (P:=Tryd.prog) rfl _ _ w.heap.size _ _ _ _ _ rfl (set6 HZ10.out _ _ _ _ _ _) rfl Tryd.underlying43 rfl (by kernel_rfl)) rfl ?_
           rw [HX2.out]
           have hb10:Below W6.heap.size W6 (wr.setCell ⟨w7.heap.size,5,none⟩ (.slice ra rn rc)):=HBW.out.setCell hWz _
           have hs10:=HS6.out.more (A':=fun k=>A2 k∨rv2.ownBlock=some k) (fun k a=>.inl a) (fun k a=>by
            rcases a with a|a
            · exact .inl a
            · exact .inr ⟨(HOL.out k a).2,fun m=>by have:=HST.out.mlt m;have:=(HOL.out k a).1;omega⟩)
           have ht10:=HT6.out.more (A2:=fun k=>A2 k∨rv2.ownBlock=some k) (fun k a=>.inl a) (fun k a=>by
            rcases a with a|a
            · exact .inl a
            · exact .inr (by have:=(HOL.out k a).1;omega))
           obtain ⟨k1,k2,k3⟩:=kl_new0 hs10 ht10 hb10
           have hz6:=(Array.getElem?_eq_some_iff.1 HZ6.out).1
           have hzN:¬ NewS (fun k=>A2 k∨rv2.ownBlock=some k) W6 (wr.setCell ⟨w7.heap.size,5,none⟩ (.slice ra rn rc)) w.heap.size:=fun a=>by
            rcases a with (a|a)|a
            · exact HZA.out a
            · have:=(HOL.out _ a).1;omega
            · omega
           have hKz:=keeps_set6 (wr.setCell ⟨w7.heap.size,5,none⟩ (.slice ra rn rc)) w.heap.size (.int .i64 (fi:Int)) (.slice aq nq cq) (.bool r.list) (.int .i64 r.n) (.slice a7 r.l.length k7) (.slice ra rn rc)
           obtain ⟨r1,r2⟩:=own_young HST.out k1 k2 hKz (fun k e=>⟨by omega,fun a=>hzN (e ▸ a)⟩)
           have hstz:=hKz.stays (A:=NewS (fun k=>A2 k∨rv2.ownBlock=some k) W6 (wr.setCell ⟨w7.heap.size,5,none⟩ (.slice ra rn rc))) (fun k a _ e=>hzN (e ▸ a))
           have hks:=keeps_set wr w7.heap.size 5 (.slice ra rn rc)
           have hv1:=((HR9.out.stays (HALQ.out.keeps.stays (fun k a _ e=>by omega))).stays (hks.stays (fun k a _ e=>by omega))).stays (show Stays _ (NewS (fun k=>A2 k∨rv2.ownBlock=some k) W6 (wr.setCell ⟨w7.heap.size,5,none⟩ (.slice ra rn rc))) (wr.setCell ⟨w7.heap.size,5,none⟩ (.slice ra rn rc)) (wr.setCell ⟨w7.heap.size,5,none⟩ (.slice ra rn rc)) from ⟨Nat.le_refl _,fun b hb a=>⟨rfl,.inr ⟨a.1,hb⟩⟩⟩)
           have hs9':=HS9.out
           have har:=(((HALQ.out.row.keeps hks (fun k e e2=>by have:=(HALQ.out.row.lt e).1;omega) (fun k _ (a:W8.heap.size≤k) e=>by omega)).shut (A:=Up W6.heap.size) (fun k (a:W8.heap.size≤k)=>(by omega:W6.heap.size≤k)) (fun k e=>by have:=(HALQ.out.row.lt e).1;exact (by omega:W6.heap.size≤k)) (by rw [HLE.out,List.length_map];have:=HAL.out;unfold maxLen;omega)).stays (show Stays (Up W6.heap.size) (NewS (fun k=>A2 k∨rv2.ownBlock=some k) W6 (wr.setCell ⟨w7.heap.size,5,none⟩ (.slice ra rn rc))) (wr.setCell ⟨w7.heap.size,5,none⟩ (.slice ra rn rc)) (wr.setCell ⟨w7.heap.size,5,none⟩ (.slice ra rn rc)) from ⟨Nat.le_refl _,fun b hb a=>⟨rfl,.inr ⟨a,hb⟩⟩⟩)).stays hstz
           rw [HLE.out] at har
           have hrc:=HRC.out
           rw [if_pos HTR.out,HRV.out] at hrc
           have hrc2:=(hrc.stays (show Stays _ (NewS (fun k=>A2 k∨rv2.ownBlock=some k) W6 (wr.setCell ⟨w7.heap.size,5,none⟩ (.slice ra rn rc))) W6 (wr.setCell ⟨w7.heap.size,5,none⟩ (.slice ra rn rc)) from ⟨hb10.size,fun b hb a=>⟨hb10.block b hb,.inl (by rw [HRV.out];exact a)⟩⟩)).stays hstz
           have hi:In64 (fi:Int):=by unfold In64;omega
           refine ⟨_,_,rfl,⟨_,_,_,_,a7,k7,_,_,_,rfl,hv1.stays hstz,fun _ _=>⟨rfl,har,?_,trs_rows.2 hrc2,hi⟩⟩,r1,r2⟩
           obtain ⟨a',c',he,g1,g2⟩:=hv1.stays hstz
           cases he
           exact ⟨rfl,rfl,g2,g1⟩
      · have htr':C.tr=false:=by simpa using htr
        rw [htr'] at e8
        have HTR:=Lib.hid htr
        clear htr htr'
        go_wp2
        (try simp only [Exit.inBlock,Exit.then])
        refine bodyPost_ret (results_cell_row2 (P:=Tryd.prog) rfl _ _ w.heap.size _ _ _ _ _ rfl (set6 HZ8.out _ _ _ _ _ _) rfl Tryd.underlying43 rfl (by kernel_rfl)) rfl ?_
        rw [HX2.out]
        obtain ⟨k1,k2,k3⟩:=kl_new0 HS6.out HT6.out HB8.out
        have h0:=HT6.out.keeps.size
        have hzN:¬ NewS A2 W6 (w7.alloc (.cells #[.int .i64 0,.slice none 0 0,.bool r.list,.int .i64 r.n,.slice a7 r.l.length k7,.slice none 0 0] 43)) w.heap.size:=fun a=>by
         rcases a with a|a
         · exact HZA.out a
         · have:=(Array.getElem?_eq_some_iff.1 HZ6.out).1;omega
        have hKz:=keeps_set6 (w7.alloc (.cells #[.int .i64 0,.slice none 0 0,.bool r.list,.int .i64 r.n,.slice a7 r.l.length k7,.slice none 0 0] 43)) w.heap.size (.int .i64 0) (.slice none 0 0) (.bool r.list) (.int .i64 r.n) (.slice a7 r.l.length k7) (.slice none 0 0)
        obtain ⟨r1,r2⟩:=own_young HST.out k1 k2 hKz (fun k e=>⟨by omega,fun a=>hzN (e ▸ a)⟩)
        have hrf:=(HR8.out.stays (⟨Nat.le_refl _,fun b hb a=>⟨rfl,.inr ⟨a.1,hb⟩⟩⟩:Stays (fun k=>W6.heap.size≤k∧k < w7.heap.size) (NewS A2 W6 _) _ _)).stays (hKz.stays (fun k a _ e=>hzN (e ▸ a)))
        exact ⟨_,_,rfl,⟨_,_,_,_,a7,k7,_,_,_,rfl,hrf,fun _ h=>absurd h HTR.out⟩,r1,r2⟩
    · have dx:(y.err == 0)=false:=by simp [hye]
      have dx':(y.err != 0)=true:=by simp [hye]
      go_wp2
      (try simp only [Exit.inBlock,Exit.then])
      refine bodyPost_ret (results_cell_row2 (P:=Tryd.prog) rfl _ _ w.heap.size _ _ _ _ _ rfl (set6 HZ6.out _ _ _ _ _ _) rfl Tryd.underlying43 rfl (by kernel_rfl)) rfl ?_
      rw [HX.out]
      simp only [ne_eq,hye,not_false_eq_true,if_true]
      obtain ⟨r1,r2⟩:=own_young HST.out HS6.out HT6.out (keeps_set6 _ w.heap.size (.int .i64 0) (.slice none 0 0) (.bool false) (.int .i64 0) (.slice none 0 0) (.slice none 0 0)) (fun k e=>⟨by omega,fun a=>HZA.out (e ▸ a)⟩)
      exact ⟨A2,_,rfl,tree_no _ rfl hye,r1,r2⟩
end Go.Proofs.YtjhimhlebbamoaaDoor
