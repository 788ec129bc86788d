/- Contracts and plain lemmas (LwQ): no statement of the seat is proved here. -/
import Derived.Test.YtjhimhlebbamoaaDoorZs8
import Derived.Test.YtjhimhlebbamoaaDoorZs3
import Derived.Test.YtjhimhlebbamoaaDoorZr1
import Derived.Test.YtjhimhlebbamoaaDoorZs6
import Derived.Test.YtjhimhlebbamoaaDoorZs7
import Derived.Deep.CutBlock
import Derived.Deep.RegionHeld3
/- The law CostmodelPredicts. -/
set_option linter.unusedSimpArgs false
set_option linter.unusedVariables false
set_option linter.unusedSectionVars false
set_option maxRecDepth 100000
set_option maxHeartbeats 12800000
namespace Go.Proofs.YtjhimhlebbamoaaDoor
open Go.RowKit
theorem x43_all (lib:List Fn) (hv:(validE lib).2=0):∀ m,XB43 lib m∧XC43 lib m
 | 0=>⟨binds43_zero lib,call43 lib hv 0 (binds43_zero lib)⟩
 | m+1=>
   have h:=x43_all lib hv m
   have hB:=binds43 lib m h.1 h.2
   ⟨hB,call43 lib hv (m+1) hB⟩
def CutZ (W:World) (n:Nat) (s22 s23:Value) (wx:World):Prop:=∃ p q,s22=.slice (some ⟨p,0,none⟩) n n∧s23=.slice (some ⟨q,0,none⟩) n n∧CntAt wx p (List.replicate n 0)∧CntAt wx q (List.replicate n 0)∧p≠q∧W.heap.size≤p∧W.heap.size≤q∧Below W.heap.size W wx
theorem cutz_mk {W wa wb:World} {n:Nat} (hca:CntAt wa W.heap.size (List.replicate n 0)) (hba:Below W.heap.size W wa) (hcb:CntAt wb wa.heap.size (List.replicate n 0)) (hbb:Below wa.heap.size wa wb):
 CutZ W n (.slice (some ⟨W.heap.size,0,none⟩) n n) (.slice (some ⟨wa.heap.size,0,none⟩) n n) wb∧CutZ W n (.slice (some ⟨wa.heap.size,0,none⟩) n n) (.slice (some ⟨W.heap.size,0,none⟩) n n) wb:=by
 have hlt:=blk_lt hca
 have hb:=hba.trans (hbb.mono hba.size)
 have hz:=hba.size
 have hc:CntAt wb W.heap.size (List.replicate n 0):=blk_below hbb hca
 exact ⟨⟨_,_,rfl,rfl,hc,hcb,by omega,Nat.le_refl _,hz,hb⟩,⟨_,_,rfl,rfl,hcb,hc,by omega,hz,Nat.le_refl _,hb⟩⟩
theorem walk_costmodelPredicts (w:World) (ht:Tab w) (lv:Value) (lib:List Fn) (hl:FnsAt Any w lv lib) (name:ByteArray) (hn:name.size≤maxLen) (kv:Value) (kept:List ByteArray) (hk:StrsAt Any w kv kept) (av:Value) (args:List Vl) (ha:RowsAt VlE Any w av args) (limit:Int) (hlm:In64 limit):
 Calls Tryd.prog 3 #[lv,.string name,kv,av,.int .i64 limit] w fun e w'=>e=.returned (.bool true)∧Below w.heap.size w w':=by
 obtain ⟨hll,la,lc,rfl⟩:=hl.form
 obtain ⟨hkl,ka,kc,rfl⟩:=hk.form
 obtain ⟨hal,aa,ac,rfl⟩:=ha.form
 unfold maxLen at hll hkl hal
 have HT:=Lib.hid ht
 have HL:=Lib.hid hl
 have HK:=Lib.hid hk
 have HA:=Lib.hid ha
 clear ht hl hk ha
 go_enter Tryd.func3,Tryd.ntmps3
 go_wp2_with fail
 refine (awake_any _ HT.out).mono ?_
 rintro e w2 ⟨rfl,hb2⟩
 have HB2:=Lib.hid hb2
 go_wp2_with fail
 refine (great43_any _ lib ka kc kept aa ac args Any w2 (HL.out.stays (Stays.of_below hb2)) (HA.out.stays (Stays.of_below hb2))).mono ?_
 rintro e w3 ⟨b,rfl,hg,hb3⟩
 have HB3:=Lib.hid (hb2.trans (hb3.mono hb2.size))
 clear hb2 hb3
 cases b with
 | true=>
   go_wp2
   go_ret
   exact ⟨rfl,HB3.out⟩
 | false=>
   obtain ⟨hgo,hk10⟩:=hg rfl
   by_cases hlim:(400:Int) < limit
   · have d0:decide ((400:Int) < limit)=true:=decide_eq_true hlim
     clear hg hgo
     go_wp2
     go_ret
     exact ⟨rfl,HB3.out⟩
   have d0:decide ((400:Int) < limit)=false:=decide_eq_false hlim
   have HLM:=Lib.hid (show limit≤400 by omega)
   have HP:=Lib.hid (predict_any la lc lib name ka kc kept aa ac args limit Any w3 (HL.out.stays (Stays.of_below HB3.out)) (HK.out.stays (Stays.of_below HB3.out)) (HA.out.stays (Stays.of_below HB3.out)) (modest_of hgo) (HT.out.below HB3.out) (vlen_of hgo) (by omega) (by have:=hgo.len;omega))
   have HGO:=Lib.hid hgo
   have HK10:=Lib.hid hk10
   obtain ⟨R,hR⟩:∃ R,R=predN lib name kept args limit:=⟨_,rfl⟩
   rw [← hR] at HP
   clear hg hgo hlim
   go_wp2_with fail
   refine HP.out.mono ?_
   rintro e w4 ⟨a1,a2,c1,c2,rfl,hr1,hr2,hgar,hb4⟩
   have HR1:=Lib.hid hr1
   have HR2:=Lib.hid hr2
   have HB4:=Lib.hid (HB3.out.trans (hb4.mono HB3.out.size))
   have HRR:=Lib.hid hR
   clear hr1 hr2 hb4 hR HP
   obtain ⟨W5,hW5⟩:∃ W5,W5=w4.alloc (.cells #[.slice a1 R.cnt.calls.length c1,.slice a2 R.cnt.kept.length c2,.int .i64 R.gar] 29):=⟨_,rfl⟩
   have hb45:Below w4.heap.size w4 W5:=by rw [hW5];exact bel_alloc (Below.refl _ _)
   have HX5:Hid (W5.heap[w4.heap.size]?=some (.cells #[.slice a1 R.cnt.calls.length c1,.slice a2 R.cnt.kept.length c2,.int .i64 R.gar] 29 (0,0))):=Lib.hid (by rw [hW5];exact at_new0 _ _)
   have HB45:=Lib.hid hb45
   have HB5:=Lib.hid (HB4.out.trans (hb45.mono HB4.out.size))
   have HNM:Hid (Calls Tryd.prog 12 #[.slice la lib.length lc] W5 fun e w'=>∃ v,e=.returned (.tuple #[v,.int .i64 (validE lib).2])∧Below W5.heap.size W5 w'):=Lib.hid ((normalizeL_any _ lib Any W5 (HL.out.stays (Stays.of_below HB5.out)) (modest_of HGO.out) (HT.out.below HB5.out)).mono (fun e w' h=>by
    obtain ⟨h1,h2,h3⟩:=h
    by_cases hv:(validE lib).2=0
    · obtain ⟨v,rfl,_⟩:=h2 hv
      exact ⟨v,by rw [hv],h3⟩
    · exact ⟨_,h1 hv,h3⟩))
   obtain ⟨V,hV⟩:∃ V,V=(validE lib).2:=⟨_,rfl⟩
   rw [← hV] at HNM
   have HV:=Lib.hid hV
   subst hW5
   clear hV hb45
   go_wp2_with fail
   (with_reducible refine HNM.out.mono ?_)
   rintro e w6 ⟨nv,rfl,hb6⟩
   generalize hW5:w4.alloc (.cells #[.slice a1 R.cnt.calls.length c1,.slice a2 R.cnt.kept.length c2,.int .i64 R.gar] 29)=W5 at *
   have HB6:=Lib.hid (HB5.out.trans (hb6.mono HB5.out.size))
   have HB56:=Lib.hid hb6
   have HFL:=Lib.hid (flags_any _ _ lib kept Any w6 (HL.out.stays (Stays.of_below HB6.out)) (HK.out.stays (Stays.of_below HB6.out)) (by have:=HGO.out.len;omega) (by have:=HK10.out;omega))
   clear hb6 HNM hW5
   go_wp2_with fail
   (with_reducible refine HFL.out.mono ?_)
   rintro e w7 ⟨fv,g,rfl,hb7,hg1,hg2,hg3⟩
   have HB7:=Lib.hid (HB6.out.trans (hb7.mono HB6.out.size))
   have HB57:=Lib.hid (HB56.out.trans (hb7.mono HB56.out.size))
   have HG:=Lib.hid (And.intro hg1 (And.intro hg2 hg3))
   have HWE:Hid (R.err=wantE lib name args limit g):=Lib.hid (by rw [HRR.out];exact want_eq hg1 hg2 (fun h1 h2=>(hg3 h1 h2).1))
   obtain ⟨X,hX⟩:∃ X,X=startN lib name args limit:=⟨_,rfl⟩
   have HTRC:=Lib.hid (trace_any la lc lib name aa ac args Any w7 limit (HL.out.stays (Stays.of_below HB7.out)) (modest_of HGO.out) (HA.out.stays (Stays.of_below HB7.out)) (vlen_of HGO.out) (by have:=HLM.out;omega))
   rw [← hX] at HTRC
   have HXX:=Lib.hid hX
   clear hb7 hg1 hg2 hg3 HFL hX
   go_wp2_with fail
   (with_reducible refine HTRC.out.mono ?_)
   rintro e w8 ⟨f0,x1,n1,k1,bb,nn,x3,m3,k3,x5,n5,k5,rfl,-,hb8⟩
   have HB8:=Lib.hid (HB7.out.trans (hb8.mono HB7.out.size))
   have HB58:=Lib.hid (HB57.out.trans (hb8.mono HB57.out.size))
   have HB78:=Lib.hid hb8
   clear hb8 HTRC
   obtain ⟨W9,hW9⟩:∃ W9,W9=w8.alloc (.cells #[.int .i64 f0,.slice x1 n1 k1,.bool bb,.int .i64 nn,.slice x3 m3 k3,.slice x5 n5 k5] 43):=⟨_,rfl⟩
   have HB89:Hid (Below w8.heap.size w8 W9):=Lib.hid (by rw [hW9];exact bel_alloc (Below.refl _ _))
   have HB9:=Lib.hid (HB8.out.trans (HB89.out.mono HB8.out.size))
   have HB79:=Lib.hid (HB78.out.trans (HB89.out.mono HB78.out.size))
   have HB59:=Lib.hid (HB58.out.trans (HB89.out.mono HB58.out.size))
   have HFD:=Lib.hid (find_any _ lib name Any W9 (HL.out.stays (Stays.of_below HB9.out)))
   obtain ⟨fi,hfi⟩:∃ fi,fi=findF lib name:=⟨_,rfl⟩
   rw [← hfi] at HFD
   have HFI:=Lib.hid hfi
   have HWN:Hid (wantE lib name args limit g=if V≠0 then V else if fi < 0 then 21 else if g≠0 then g else X.err):=Lib.hid (by rw [HV.out,HFI.out,HXX.out];rfl)
   clear hfi
   subst hW9
   go_upto_block 0 with fail
   generalize hW9:w8.alloc (.cells #[.int .i64 f0,.slice x1 n1 k1,.bool bb,.int .i64 nn,.slice x3 m3 k3,.slice x5 n5 k5] 43)=W9 at *
   clear hW9
   go_cut [13] from 62 to 79 (fun s13 wx=>s13=.int .i64 (wantE lib name args limit g)∧Below W9.heap.size W9 wx)
   case first=>
    by_cases hV:V=0
    case neg=>
     have e0:(V != 0)=true:=by simp [hV]
     have HZ:=Lib.hid hV
     clear hV
     go_wp2
     go_meet
     exact ⟨by rw [HWN.out,if_pos HZ.out],Below.refl _ _⟩
    have e0:(V != 0)=false:=by simp [hV]
    have HZ:=Lib.hid hV
    clear hV
    go_wp2_with fail
    (with_reducible refine HFD.out.mono ?_)
    rintro e wf ⟨rfl,hbf⟩
    by_cases hf:fi < 0
    · have HF:=Lib.hid hf
      go_wp2
      go_meet
      exact ⟨by rw [HWN.out,if_neg (by rw [HZ.out];simp),if_pos HF.out],hbf⟩
    have HF:=Lib.hid hf
    by_cases hg:g=0
    case neg=>
     have e1:(g != 0)=true:=by simp [hg]
     have HG0:=Lib.hid hg
     clear hg
     go_wp2
     go_meet
     exact ⟨by rw [HWN.out,if_neg (by rw [HZ.out];simp),if_neg (Int.not_lt.2 HF.out),if_pos HG0.out],hbf⟩
    have e1:(g != 0)=false:=by simp [hg]
    have HG0:=Lib.hid hg
    clear hg
    by_cases hx:X.err=0
    case neg=>
     have e2:(X.err != 0)=true:=by simp [hx]
     clear hx
     go_wp2
     go_meet
     exact ⟨by rw [HWN.out,if_neg (by rw [HZ.out];simp),if_neg (Int.not_lt.2 HF.out),if_neg (by rw [HG0.out];simp)],hbf⟩
    have e2:(X.err != 0)=false:=by simp [hx]
    have HX0:=Lib.hid hx
    clear hx
    go_wp2
    go_meet
    exact ⟨by rw [HWN.out,if_neg (by rw [HZ.out];simp),if_neg (Int.not_lt.2 HF.out),if_neg (by rw [HG0.out];simp),HX0.out],hbf⟩
   case rest=>
    obtain ⟨rfl,hbc⟩:=hcut
    obtain ⟨wd,hwd⟩:∃ wd,wd=wc:=⟨_,rfl⟩
    subst hwd
    rw [← HWE.out]
    have HB7D:=Lib.hid (HB79.out.trans (hbc.mono HB79.out.size))
    have HB5D:=Lib.hid (HB59.out.trans (hbc.mono HB59.out.size))
    have HBC:=Lib.hid (HB9.out.trans (hbc.mono HB9.out.size))
    have HXC:=Lib.hid (blk_below hbc (blk_below HB59.out HX5.out))
    clear hbc
    by_cases h0:R.err=0
    case neg=>
     obtain ⟨q1,q2⟩:R.cnt=noCnt∧R.gar=0:=by
      rw [HRR.out] at h0 ⊢;exact pred_badP h0
     have e0:(R.err != 0)=true:=by simp [h0]
     have l1:R.cnt.calls.length=0:=by rw [q1];rfl
     have l2:R.cnt.kept.length=0:=by rw [q1];rfl
     obtain ⟨y0,y1,y2⟩:=cells3 HXC.out
     rw [l1] at y0
     rw [l2] at y1
     rw [q2] at y2
     rw [l1,l2]
     clear h0 q1 l1 l2 q2 HR1 HR2
     go_wp2
     go_ret
     exact ⟨rfl,HBC.out⟩
    have hE:(predN lib name kept args limit).err=0:=by rw [← HRR.out];exact h0
    obtain ⟨hv,hf,hbad,hnd,hX0,hReq⟩:=pred_ok hE
    obtain ⟨_,kb,F,rfl,hflg,hFl,hkb7,hFi⟩:=HG.out.2.2 (by first|exact hbad|exact fun s hs=>Int.not_lt.1 (hbad s hs)) hnd
    obtain ⟨htok,htf,_,hsteps,hw0,htlen,hl0⟩:=start_tree hv (vlen_of HGO.out) hX0
    obtain ⟨htr,hcost,htargs⟩:=start_treeW hv hX0
    obtain ⟨v1,v2,v3,v4,v5,v6,v7,v8⟩:=vis_ok hv htok htlen (fuel:=limit) (by have:=HLM.out;omega) hsteps hw0 (inK lib kept)
    have hR1:R.cnt=(visT (puN lib) (inK lib kept) (startN lib name args limit).tree false 1 (zeroCnt lib.length)).2:=by rw [HRR.out,hReq]
    have hR2:R.gar=gL (puN lib) (inK lib kept) (startN lib name args limit).tree.calls:=by
     rw [HRR.out,hReq]
     show (visT (puN lib) (inK lib kept) (startN lib name args limit).tree false 1 (zeroCnt lib.length)).1=_
     rw [visT_g,gT_root]
    rw [← hR1] at v2 v3 v4
    rw [← HXX.out] at htok htf hsteps hw0 htlen htr hcost htargs v5 v6 hR1 hR2
    have hpos:0 < lib.length:=by have:=(findF_lt (lib:=lib) (name:=name) hf).2;omega
    have hle6:=HGO.out.len
    have HTREE:=Lib.hid (tree_any lib hv (fun m=>(x43_all lib hv m).2) (.slice la lib.length lc) (.slice aa args.length ac) name args (fun k=>k < wd.heap.size) wd X.tree (HL.out.stays ⟨HBC.out.size,fun b hb _=>⟨HBC.out.block b hb,Nat.lt_of_lt_of_le hb HBC.out.size⟩⟩) (HA.out.stays ⟨HBC.out.size,fun b hb _=>⟨HBC.out.block b hb,Nat.lt_of_lt_of_le hb HBC.out.size⟩⟩) (fun k a=>a) (by omega) (by have:=HGO.out.al;omega) (vlen_of HGO.out) htr htlen htf htargs (by have:=HLM.out;omega))
    have HV1:=Lib.hid (And.intro hv (And.intro hFl (flags_K hv hbad hFi)))
    have HT1:=Lib.hid (And.intro htok (And.intro htlen (And.intro v5 (And.intro v6 (And.intro v7 v8)))))
    have HV2:=Lib.hid (And.intro v2 (And.intro v3 v4))
    have HRE:=Lib.hid (And.intro hR1 hR2)
    have HFG:=Lib.hid (blk_below HB7D.out hflg)
    have HKB:Hid (kb < w7.heap.size):=Lib.hid (blk_lt hflg)
    have HPOS:=Lib.hid (And.intro hpos hle6)
    have e0:(R.err != 0)=false:=by simp [h0]
    have e1:(R.err == 0)=true:=by simp [h0]
    clear h0 hE hv hf hbad hnd hX0 hReq hflg hFl hkb7 hFi htok htf hsteps hw0 htlen hl0 htr hcost htargs v1 v2 v3 v4 v5 v6 v7 v8 hR1 hR2 hpos hle6
    go_wp2_with fail
    (with_reducible refine HTREE.out.mono ?_)
    rintro e w10 ⟨nv,rfl,hnd,hb10⟩
    obtain ⟨na,nc,rfl,hnds⟩:=hnd
    obtain ⟨W11,hW11⟩:∃ W11,W11=w10.alloc (.cells #[.int .i64 X.tree.f,.int .i64 (puN lib X.tree),.slice na X.tree.calls.length nc] 49):=⟨_,rfl⟩
    have HB11:Hid (Below w10.heap.size w10 W11):=Lib.hid (by rw [hW11];exact bel_alloc (Below.refl _ _))
    have HX11:Hid (W11.heap[w10.heap.size]?=some (.cells #[.int .i64 X.tree.f,.int .i64 (puN lib X.tree),.slice na X.tree.calls.length nc] 49 (0,0))):=Lib.hid (by rw [hW11];exact at_new0 _ _)
    have HBD11:=Lib.hid (hb10.trans (HB11.out.mono hb10.size))
    have HND:=Lib.hid hnds
    clear hnds hb10 HTREE
    subst hW11
    go_upto_region 21 with fail
    generalize hW11:w10.alloc (.cells #[.int .i64 X.tree.f,.int .i64 (puN lib X.tree),.slice na X.tree.calls.length nc] 49)=W11 at *
    clear hW11
    go_cut [22,23] from 108 to 114 (fun s22 s23 wx=>CutZ W11 lib.length s22 s23 wx)
    case first=>
     obtain ⟨wa,hra,hca,hba⟩:=make_run lib.length HPOS.out.1 (by have:=HPOS.out.2;omega) W11.drew
     obtain ⟨wb,hrb,hcb,hbb⟩:=make_run lib.length HPOS.out.1 (by have:=HPOS.out.2;omega) wa
     have HZ:=Lib.hid (cutz_mk (W:=W11) hca ((bel_drew (Below.refl W11.heap.size W11)).trans hba) hcb hbb)
     have hra:(Instr.makeSlice 27 (.int .i64 (lib.length:Int)) (.int .i64 (lib.length:Int))).run Tryd.prog W11.drew=.ok (.slice (some ⟨W11.heap.size,0,none⟩) lib.length lib.length) wa:=hra
     clear hca hba hcb hbb
     go_wp2
     go_region
     all_goals
      go_wp2
      go_meet
      first|exact HZ.out.1|exact HZ.out.2
    case rest=>
     obtain ⟨p,q,rfl,rfl,hcp,hcq,hpq,hp11,hq11,hb11⟩:=hcut
     have hz10:w10.heap.size < W11.heap.size:=blk_lt HX11.out
     have hzd:=HBD11.out.size
     have hbdc:Below wd.heap.size wd wc:=HBD11.out.trans (hb11.mono HBD11.out.size)
     have hz7:=HB7D.out.size
     have hzc:=hb11.size
     have hkb:=HKB.out
     have hnds2:NdsAt lib (fun k=>k < wc.heap.size∧k≠p∧k≠q) wc (.slice na X.tree.calls.length nc) X.tree.calls:=
      (HND.out.stays (show Stays Any Any w10 W11 from ⟨HB11.out.size,fun b hb _=>⟨HB11.out.block b hb,trivial⟩⟩)).stays ⟨hb11.size,fun b hb _=>⟨hb11.block b hb,by omega,by omega,by omega⟩⟩
     have hco0:CoSt ⟨p,q,kb,lib,F,inK lib kept,HV1.out.1,HV1.out.2.1,HV1.out.2.2⟩ (fun k=>k < wc.heap.size∧k≠p∧k≠q) wc (zeroCnt lib.length):={
      p:=hcp
      q:=hcq
      f:=blk_below hbdc HFG.out
      len:=zero_len _
      alt:=fun j a=>a.1
      ap:=fun a=>a.2.1 rfl
      aq:=fun a=>a.2.2 rfl
      pq:=hpq
      fp:=by show kb≠p;omega
      fq:=by show kb≠q;omega }
     have HCNT:=Lib.hid (count_any ((stepsT X.tree).toNat+1) _ _ wc (zeroCnt lib.length) X.tree na nc false 1 (by have:=stepsT_pos X.tree;push_cast;omega) HT1.out.2.2.2.1 HT1.out.1 HT1.out.2.1 ⟨by omega,by omega⟩ (fun e=>by cases e) ⟨HT1.out.2.2.2.2.1,HT1.out.2.2.2.2.2⟩ HT1.out.2.2.1 hnds2 hco0)
     have hnb:=blk_below hb11 HX11.out
     obtain ⟨z0,z1,z2⟩:=cells3 hnb
     have HNB:=Lib.hid hnb
     have HPQ:=Lib.hid (And.intro hp11 (And.intro hq11 (And.intro hz10 (And.intro hzd (And.intro hz7 hkb)))))
     have HBDC:=Lib.hid hbdc
     have HB11C:=Lib.hid hb11
     have HND2:=Lib.hid hnds2
     clear hcp hcq hpq hp11 hq11 hb11 hz10 hzd hbdc hz7 hzc hkb hnds2 hco0 hnb
     go_wp2_with fail
     (with_reducible refine HCNT.out.mono ?_)
     rintro e w12 ⟨rfl,hco,hkc⟩
     rw [← HRE.out.1] at hco
     have hpq:=HPQ.out
     have HF12:Hid (Below w.heap.size w w12):=Lib.hid (by
      have h1:=HBC.out.trans (HBDC.out.mono HBC.out.size)
      have h2:=HBC.out.size
      exact ((Keeps.of_below (fun k=>w.heap.size≤k) h1).same (hkc.mono (fun k e=>by
       rcases e with e|e
       · have e:k=p:=e
         omega
       · have e:k=q:=e
         omega))).below (fun _ e=>e) (Nat.le_refl _))
     have hnp:∀ k,k < W11.heap.size→¬ (k=p∨k=q):=fun k hk e=>by omega
     have HBX:Hid (∀ g o,g < W11.heap.size→wc.heap[g]?=some o→w12.heap[g]?=some o):=Lib.hid (fun g o hg ho=>(hkc.block g (blk_lt ho) (hnp g hg)).trans ho)
     have hx4:=HB5D.out.size
     have hw4:w4.heap.size < W5.heap.size:=blk_lt HX5.out
     have HXC12:=Lib.hid (HBX.out w4.heap.size _ (by omega) (blk_below HBDC.out HXC.out))
     have HXN12:=Lib.hid (HBX.out w10.heap.size _ hpq.2.2.1 HNB.out)
     have HST4:Hid (Stays (fun k=>w3.heap.size≤k) Any w4 w12):=Lib.hid ⟨by have:=hkc.size;have:=HB11C.out.size;omega,fun b hb _=>⟨(hkc.block b (by have:=HB11C.out.size;omega) (hnp b (by omega))).trans ((HBDC.out.block b (by omega)).trans ((HB5D.out.block b (by omega)).trans (HB45.out.block b hb))),trivial⟩⟩
     have HRW:Hid (RowsAt IntE Any w12 (.slice a1 R.cnt.calls.length c1) R.cnt.calls∧RowsAt IntE Any w12 (.slice a2 R.cnt.kept.length c2) R.cnt.kept):=Lib.hid ⟨HR1.out.stays HST4.out,HR2.out.stays HST4.out⟩
     have hl1:R.cnt.calls.length=lib.length:=HV2.out.1.1
     have hl2:R.cnt.kept.length=lib.length:=HV2.out.1.2
     have hp12:=cnt_rows (A:=Any) hco.p trivial HV2.out.2.1 (by rw [hl1];have:=HPOS.out.2;unfold maxLen;omega)
     have hq12:=cnt_rows (A:=Any) hco.q trivial HV2.out.2.2 (by rw [hl2];have:=HPOS.out.2;unfold maxLen;omega)
     rw [hl1] at hp12
     rw [hl2] at hq12
     have h6:=HPOS.out.2
     have HI1:Hid (∀ w7,Below w12.heap.size w12 w7→Calls Tryd.prog 18 #[.slice a1 R.cnt.calls.length c1,.slice (some ⟨p,0,none⟩) lib.length lib.length] w7 fun e w'=>e=.returned (.bool true)∧Below w7.heap.size w7 w'):=Lib.hid (fun w7 h7=>by
      have h:=ints43_any _ _ R.cnt.calls R.cnt.calls w7 (ints_of (HRW.out.1.stays (Stays.of_below h7)) (by omega)) (ints_of (hp12.stays (Stays.of_below h7)) (by omega))
      simpa using h)
     have HI2:Hid (∀ w7,Below w12.heap.size w12 w7→Calls Tryd.prog 18 #[.slice a2 R.cnt.kept.length c2,.slice (some ⟨q,0,none⟩) lib.length lib.length] w7 fun e w'=>e=.returned (.bool true)∧Below w7.heap.size w7 w'):=Lib.hid (fun w7 h7=>by
      have h:=ints43_any _ _ R.cnt.kept R.cnt.kept w7 (ints_of (HRW.out.2.stays (Stays.of_below h7)) (by omega)) (ints_of (hq12.stays (Stays.of_below h7)) (by omega))
      simpa using h)
     have hnd12:NdsAt lib Any w12 (.slice na X.tree.calls.length nc) X.tree.calls:=HND2.out.stays ⟨hkc.size,fun b hb a=>⟨hkc.block b hb (fun e=>by
      rcases e with e|e
      · exact a.2.1 e
      · exact a.2.2 e),trivial⟩⟩
     have HGA:Hid (∀ w7,Below w12.heap.size w12 w7→Calls Tryd.prog 19 #[.agg #[.int .i64 X.tree.f,.int .i64 (puN lib X.tree),.slice na X.tree.calls.length nc],.slice (some ⟨kb,0,none⟩) lib.length lib.length] w7 fun e w'=>e=.returned (.int .i64 R.gar)∧Below w7.heap.size w7 w'):=Lib.hid (fun w7 h7=>by
      rw [HRE.out.2]
      exact garbage43_any ((stepsT X.tree).toNat+1) lib F (inK lib kept) kb Any w7 X.tree na nc HV1.out.1 HV1.out.2.1 HV1.out.2.2 (by have:=stepsT_pos X.tree;push_cast;omega) HT1.out.2.2.2.1 HT1.out.1 HT1.out.2.1 (hnd12.stays (Stays.of_below h7)) (blk_below h7 hco.f))
     have HXX12:Hid (∀ w1,Below w12.heap.size w12 w1→w1.cell? ⟨w4.heap.size,0,none⟩=some (.slice a1 R.cnt.calls.length c1)∧w1.cell? ⟨w4.heap.size,1,none⟩=some (.slice a2 R.cnt.kept.length c2)∧w1.cell? ⟨w4.heap.size,2,none⟩=some (.int .i64 R.gar)∧w1.cell? ⟨w10.heap.size,0,none⟩=some (.int .i64 X.tree.f)∧w1.cell? ⟨w10.heap.size,1,none⟩=some (.int .i64 (puN lib X.tree))∧w1.cell? ⟨w10.heap.size,2,none⟩=some (.slice na X.tree.calls.length nc)):=Lib.hid (fun w1 h=>by
      obtain ⟨x0,x1,x2⟩:=cells3 (blk_below h HXC12.out)
      obtain ⟨y0,y1,y2⟩:=cells3 (blk_below h HXN12.out)
      exact ⟨x0,x1,x2,y0,y1,y2⟩)
     have HF:Hid (∀ w1,Below w12.heap.size w12 w1→Below w.heap.size w w1):=Lib.hid (fun w1 h=>HF12.out.trans (h.mono HF12.out.size))
     have g3:(R.gar == R.gar)=true:=by simp
     clear hco hkc hpq hnp hx4 hw4 hl1 hl2 hp12 hq12 h6 hnd12 z0 z1 z2 HCNT
     obtain ⟨u0,u1,u2,y0,y1,y2⟩:=HXX12.out w12 (Below.refl _ _)
     go_wp2
     go_region_held3 (fun w1=>w1.cell? ⟨w4.heap.size,0,none⟩=some (.slice a1 R.cnt.calls.length c1)∧w1.cell? ⟨w4.heap.size,1,none⟩=some (.slice a2 R.cnt.kept.length c2)∧w1.cell? ⟨w4.heap.size,2,none⟩=some (.int .i64 R.gar)∧w1.cell? ⟨w10.heap.size,0,none⟩=some (.int .i64 X.tree.f)∧w1.cell? ⟨w10.heap.size,1,none⟩=some (.int .i64 (puN lib X.tree))∧w1.cell? ⟨w10.heap.size,2,none⟩=some (.slice na X.tree.calls.length nc)) (with_reducible exact HXX12.out _ (by (repeat (with_reducible first|exact Below.refl _ _|refine bel_drew ?_|refine bel_alloc ?_|(apply bel_step;focus assumption)))))
      (first
      | (go_at_call 18;(with_reducible refine (HI1.out _ (by (repeat (with_reducible first|exact Below.refl _ _|refine bel_drew ?_|refine bel_alloc ?_|(apply bel_step;focus assumption))))).mono ?_);rintro e w13 ⟨rfl,hb13⟩)
      | (go_at_call 18;(with_reducible refine (HI2.out _ (by (repeat (with_reducible first|exact Below.refl _ _|refine bel_drew ?_|refine bel_alloc ?_|(apply bel_step;focus assumption))))).mono ?_);rintro e w14 ⟨rfl,hb14⟩)
      | (go_at_call 19;(with_reducible refine (HGA.out _ (by (repeat (with_reducible first|exact Below.refl _ _|refine bel_drew ?_|refine bel_alloc ?_|(apply bel_step;focus assumption))))).mono ?_);rintro e w15 ⟨rfl,hb15⟩)
      | fail)
     all_goals
      go_wp2
      go_ret
      exact ⟨rfl,HF.out _ (by (repeat (with_reducible first|exact Below.refl _ _|refine bel_drew ?_|refine bel_alloc ?_|(apply bel_step;focus assumption))))⟩
end Go.Proofs.YtjhimhlebbamoaaDoor
