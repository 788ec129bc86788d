/- Contracts and plain lemmas (LwQc): no statement of the seat is proved here. -/
import Derived.Test.YtjhimhlebbamoaaDoorZr2
import Derived.Test.YtjhimhlebbamoaaDoorTie
import Derived.Test.YtjhimhlebbamoaaDoorCards
import Derived.ProofKit
import Derived.LaidMore
import Derived.LaidLaws
import Derived.Lib.LaidTab
import Derived.SevenTiedAt
import Derived.OpenShut
import Derived.ChangeSame
import Derived.ChangeVars
import Derived.JoinedOf
import Derived.Stop.Joined
import Derived.MakeChecks
/- CostmodelPredicts: for every library, name, kept names, arguments and fuel the law is true. No condition. -/
set_option linter.unusedSimpArgs false
set_option linter.unusedVariables false
set_option maxRecDepth 100000
namespace Go.Proofs.YtjhimhlebbamoaaDoor
open Go.ChangeShapes Go.WideShapes Go.ChangeAt Go.WideMaps Go.WideElems Go.RowKit
abbrev laid_costmodelPredicts:List (String × DataW Unit):=[("math/bits.deBruijn32tab",Rows.laid_math_bits_deBruijn32tab),("math/bits.deBruijn64tab",Rows.laid_math_bits_deBruijn64tab),("internal/strconv.uint64pow10",Rows.laid_internal_strconv_uint64pow10)]
theorem gPow:Tryd.prog.globalNamed "internal/strconv.uint64pow10"=some 0:=by kernel_rfl
theorem door_met (os:Os) (args:Array Value):laidMetH Tryd.prog laid_costmodelPredicts ((World.doorLaid Tryd.prog 24 os).forCall (fun _ _=>0) ⟨#[],args,[]⟩).memory:=
 laidMetH_of_parts3 (fuel:=8) (laidMet_of_run' 8 (by kernel_rfl) (by kernel_rfl)) (by kernel_rfl) (by kernel_rfl)
theorem tab_of_laid {W:World} (h:laidMetH Tryd.prog laid_costmodelPredicts W):Tab W:=by
 rw [MakeChecks.laidMetH_plain _ _ _ (by kernel_rfl)] at h
 obtain ⟨ps,⟨g0,t0,cs0,f0,p0,q0,hg0,ht0,hv0,hd0,⟨g1,t1,cs1,f1,p1,q1,hg1,ht1,hv1,hd1,⟨g2,t2,cs2,f2,p2,q2,hg2,ht2,hv2,hd2,_,_⟩,_⟩,_⟩,_,_⟩:=h
 obtain rfl:=Option.some.inj (gPow.symm.trans hg2)
 obtain rfl:=Option.some.inj ((show (Tryd.prog.globals[0]?).map (·.type)=some 187 by kernel_rfl).symm.trans ht2)
 unfold Tab Lib.TabIs
 rw [hv2,← Lib.cells_of_tab (k:=.u64) (zs:=Lib.pow10Tab) Tryd.underlying187 Tryd.underlying180 (by kernel_rfl) (by kernel_rfl) hd2]
theorem lifted_costmodelPredicts (os:Os) (started:os.Started) (H:Type) (enc:TypeId × Value→H):
 ReturnsInHanded {} Tryd.checked os 3 .any (fun w args=>(Rows.costmodelPredictsSpec.pre enc Tryd.prog Tryd.f3 [] false w args∧laidMetH Tryd.prog laid_costmodelPredicts w)∧sizedMet enc Tryd.prog Tryd.f3 (OpenSpec.ofChange Rows.costmodelPredictsSpec) false w args)
  (Rows.costmodelPredictsSpec.post enc Tryd.prog Tryd.f3 false true false false):=by
 refine returnsInHanded_of_change_and (C:=Tryd.checked) (X:=fun w _=>laidMetH Tryd.prog laid_costmodelPredicts w) (fun _ _ _ hh h=>h.of_heap hh) own started (by kernel_rfl) Tryd.func3
  (ChangeSpec.witness_shaped (enc:=enc) (C:=Tryd.checked) (os:=os) (X:=fun w _=>laidMetH Tryd.prog laid_costmodelPredicts w) false (World.doorLaid Tryd.prog 24 os) #[.slice none 0 0,.string ⟨#[]⟩,.slice none 0 0,.slice none 0 0,.int .i64 0] 8 rfl (World.shaped_of_RefB (by kernel_rfl) (by kernel_rfl)) (by kernel_rfl) (by kernel_rfl) (by kernel_rfl) (door_met os _)) ?_
 intro W base args ds gs before hval0 hW hcnd hsz0 hL _
 have hval:∀ (j:Nat) t v,Tryd.f3.params[j]?=some t→args[j]?=some v→Value.okWide Tryd.prog W .any base t v:=hval0
 have HT:=tab_of_laid hL
 have hW':=hW
 obtain ⟨p,q,hA0,hV,rfl,hfz,hnd⟩:=hW
 have hA:DataW.TrodAll enc Tryd.prog W 0 (fun _=>true) true Tryd.f3.params.toList args.toList ds p:=hA0
 rw [Tryd.params3] at hA hval
 obtain ⟨v0,vs0,d0,ds0,p0,q0,hargs,rfl,rfl,h0,r0⟩:=trodAll_cons hA
 obtain ⟨v1,vs1,d1,ds1,p1,q1,rfl,rfl,rfl,h1,r1⟩:=trodAll_cons r0
 obtain ⟨v2,vs2,d2,ds2,p2,q2,rfl,rfl,rfl,h2,r2⟩:=trodAll_cons r1
 obtain ⟨v3,vs3,d3,ds3,p3,q3,rfl,rfl,rfl,h3,r3⟩:=trodAll_cons r2
 obtain ⟨v4,vs4,d4,ds4,p4,q4,rfl,rfl,rfl,h4,r4⟩:=trodAll_cons r3
 obtain ⟨rfl,rfl,rfl⟩:=trodAll_nil r4
 obtain rfl:args=#[v0,v1,v2,v3,v4]:=by cases args;simp_all
 obtain ⟨rfl,rfl⟩:=trodVars_none hV
 have k0:=h0
 have lt0:∀ x ∈ p0,x.block < W.heap.size:=by obtain ⟨m,hm⟩:=k0;exact DataW.trod_lt m _ _ _ hm
 obtain ⟨l0,i0⟩:∃ l,FnsAt Any W v0 l:=by
  obtain ⟨a,len,cap,rfl⟩:=okWide_slice Tryd.underlying22 (hval 0 22 v0 rfl rfl)
  obtain ⟨m,hm⟩:=h0
  obtain ⟨v,l,e,hl⟩:=openFns hm
  have e2:Value.slice a len cap=v:=by simpa [Value.cells] using e
  rw [e2]
  exact ⟨l,hl⟩
 have k1:=h1
 have lt1:∀ x ∈ p1,x.block < W.heap.size:=by obtain ⟨m,hm⟩:=k1;exact DataW.trod_lt m _ _ _ hm
 obtain ⟨s1,rfl,i1⟩:∃ s,v1=.string s∧s.size≤maxLen:=by
  obtain ⟨s,rfl⟩:=okWide_string Tryd.underlying9 (hval 1 9 v1 rfl rfl)
  obtain ⟨m,hm⟩:=h1
  obtain ⟨s2,e,_,w2⟩:=DataW.trod_string Tryd.underlying9 hm
  have e2:s=s2:=by simpa [Value.cells] using e
  exact ⟨s,rfl,by rw [e2];exact w2⟩
 have k2:=h2
 have lt2:∀ x ∈ p2,x.block < W.heap.size:=by obtain ⟨m,hm⟩:=k2;exact DataW.trod_lt m _ _ _ hm
 obtain ⟨l2,i2⟩:∃ l,StrsAt Any W v2 l:=by
  obtain ⟨a,len,cap,rfl⟩:=okWide_slice Tryd.underlying23 (hval 2 23 v2 rfl rfl)
  obtain ⟨m,hm⟩:=h2
  obtain ⟨v,l,e,hl⟩:=openStrs hm
  have e2:Value.slice a len cap=v:=by simpa [Value.cells] using e
  rw [e2]
  exact ⟨l,hl⟩
 have k3:=h3
 have lt3:∀ x ∈ p3,x.block < W.heap.size:=by obtain ⟨m,hm⟩:=k3;exact DataW.trod_lt m _ _ _ hm
 obtain ⟨l3,i3⟩:∃ l,RowsAt VlE Any W v3 l:=by
  obtain ⟨a,len,cap,rfl⟩:=okWide_slice Tryd.underlying24 (hval 3 24 v3 rfl rfl)
  obtain ⟨m,hm⟩:=h3
  obtain ⟨v,l,e,hl⟩:=openVls hm
  have e2:Value.slice a len cap=v:=by simpa [Value.cells] using e
  rw [e2]
  exact ⟨l,hl⟩
 obtain ⟨a4,rfl,rfl,rfl,w4⟩:=open_int Tryd.underlying3 (hval 4 3 v4 rfl rfl) h4
 clear hA0 hval0
 refine (walk_costmodelPredicts W HT v0 l0 i0 s1 i1 v2 l2 i2 v3 l3 i3 a4 (rangeI64 w4)).mono fun e W' ⟨he,bel⟩=>?_
 subst he
 exact ⟨_,rfl,_,_,_,[],_,[],hW',trodAll_mk1 (shut_bool Tryd.underlying4 _),(trodAll_cons_mk (Below.trod laidOut (by kernel_rfl) (of_decide_eq_true (by kernel_rfl)) k0 bel lt0) (trodAll_cons_mk (Below.trod laidOut (by kernel_rfl) (of_decide_eq_true (by kernel_rfl)) k1 bel lt1) (trodAll_cons_mk (Below.trod laidOut (by kernel_rfl) (of_decide_eq_true (by kernel_rfl)) k2 bel lt2) (trodAll_cons_mk (Below.trod laidOut (by kernel_rfl) (of_decide_eq_true (by kernel_rfl)) k3 bel lt3) (trodAll_cons_mk (shut_int Tryd.underlying3 w4) trodAll_mk0))))),rfl,bel.frame _,fun h=>by cases h⟩
theorem said_costmodelPredicts:Rows.CostmodelPredictsSaid:=
 OpenClaim.holds_of_wide 3 Tryd.f3 rfl rfl rfl rfl rfl rfl rfl ⟨rfl,rfl,rfl,rfl,rfl⟩ rfl rfl rfl rfl rfl (by kernel_rfl) Tryd.func3 (by kernel_rfl)
  (of_decide_eq_true (by kernel_rfl)) (by unfold Func.isWrapper;first|(rw [if_pos (by decide +kernel)];kernel_rfl)|(rw [if_neg (by decide +kernel)];exact ⟨rfl,rfl⟩))
  (fun os started H enc _=>lifted_costmodelPredicts os started H enc)
theorem proved_costmodelPredicts:Rows.CostmodelPredictsCardSaid:=
 Claim7.holds_tied_plain_at .later [] [.data,.data,.data] true (Rows.costmodelPredictsCard.stood.harness) (Rows.costmodelPredictsCard.stood.looks)
  said_costmodelPredicts (fun _ h=>by cases h) (by kernel_rfl) (fun _ h=>by cases h) costmodelPredicts_row_tie rfl ⟨rfl,rfl⟩ (by kernel_rfl) rfl
  (fun f fn hf hfn=>by
    obtain rfl:f=3:=Option.some.inj ((show Tryd.prog.funcNamed "backstep/backsteplaw43.CostmodelPredicts"=some 3 by kernel_rfl).symm.trans hf) |>.symm
    obtain rfl:fn=Tryd.f3:=(Option.some.inj (Tryd.func3.symm.trans hfn)).symm
    exact ⟨by kernel_rfl,fun j t ht=>by
     rw [Tryd.params3] at ht
     have hm:=Array.mem_of_getElem? ht
     have hall:(#[22,9,23,24,3].all fun u=>!Tryd.prog.wantsStandIn u)=true:=by kernel_rfl
     rw [Array.all_eq_true_iff_forall_mem] at hall
     exact (show Tryd.prog.wantsStandIn t=false by simpa using hall t hm)⟩)
  (by kernel_rfl)
#print axioms proved_costmodelPredicts
end Go.Proofs.YtjhimhlebbamoaaDoor
